import Derived.Test.YtbegahbagnflnaaGreatDoorMn15
import Derived.Test.YtbegahbagnflnaaGreatDoorMn14
import Derived.Test.YtbegahbagnflnaaGreatDoorMn02
import Derived.Test.YtbegahbagnflnaaGreatDoorMn01
set_option linter.unusedSimpArgs false
set_option linter.unusedVariables false
set_option linter.unnecessarySimpa false
namespace Go.Proofs.YtbegahbagnflnaaGreatDoor
section
open Go.RowKit
variable {W V w w' : World} {X C : Nat} {sv : Value} {m : MS}
theorem mI_any (n : Int) (w : World) : Calls Tryz.prog 52 #[.int .i64 n] w fun e w' => e = .returned (.agg #[.int .i64 0, .int .i64 n, .string ⟨#[]⟩, .slice none 0 0]) ∧ Fr (fun _ => False) w w' := by
 go_enter Tryz.func52, Tryz.ntmps52
 go_wp2
 have hR : (w.alloc (.cells #[.int .i64 0, .int .i64 n, .string ⟨#[]⟩, .slice none 0 0] 44)).heap[w.heap.size]? = some (.cells #[.int .i64 0, .int .i64 n, .string ⟨#[]⟩, .slice none 0 0] 44) := heap_alloc_new w _
 refine bodyPost_ret (results_cell_row rfl _ _ w.heap.size _ _ _ _ rfl hR Tryz.underlying44 rfl (by kernel_rfl)) rfl ?_
 exact ⟨rfl, (Fr.refl _ _).alloc _⟩
theorem Tryz.info_nodes : (Tryz.prog.info? 22).map (fun i => (i.zero, i.size, i.bytes)) = some (some (.slice none 0 0), 1, 24) := by kernel_rfl
set_option maxRecDepth 100000 in
set_option maxHeartbeats 25600000 in
theorem stmt_of (N : Nat) (ihb : BlockTo N) : StmtTo (N + 1) := by
 intro x hx hsz hrt D W V w u X C sv m hv hm hL hNB
 obtain ⟨va9, v9, rfl, hvl, hnl⟩ := hv.open
 obtain ⟨xa, xc, xu, rfl, -⟩ := id hvl
 obtain ⟨la, lc, us, rfl, hlc, -⟩ := id hnl
 have hcx := Nd.cnt_eq x; have hzx := Nd.sz_eq x
 have hll := len_le_cnt x.l; have hcz := cntL_szL x.l
 have hB : cntL x.l < N ∧ szL x.l ≤ 1048576 ∧ x.l.length ≤ 1048576 ∧ x.v.size ≤ 1048576 := by omega
 have HB := hid hB
 have hop := hrt.own.1
 have hop2 : x.op = 40 ∨ x.op = 41 ∨ x.op = 42 ∨ x.op = 43 ∨ x.op = 44 ∨ x.op = 45 ∨ x.op = 46 ∨ x.op = 47 ∨ x.op = 48 ∨ x.op = 49 ∨ x.op = 51 := by
  simp [pStands] at hop
  omega
 have hF := (Fr.refl (fun _ => False) w).alloc (.cells #[.int .i64 x.op, .int .i64 x.ln, .string x.s, .int .i64 x.v.k, .int .i64 x.v.n, .string x.v.s, .slice xa x.v.l.length xc, .slice la x.l.length lc] 75)
 have HG := hid (heap_alloc_new w (.cells #[.int .i64 x.op, .int .i64 x.ln, .string x.s, .int .i64 x.v.k, .int .i64 x.v.n, .string x.v.s, .slice xa x.v.l.length xc, .slice la x.l.length lc] 75))
 have HM0 := hid (hm.fr hF)
 have HNL := hid hnl; have HRT := hid hrt; have HL := hid (And.intro hL hNB); have HIB := hid ihb
 clear hv hvl hnl hrt hm hL hNB hF hx hsz hcx hzx hll hcz hB hop ihb
 go_enter Tryz.func82, Tryz.ntmps82
 go_upto_region 1 with fail
 generalize w.alloc (.cells #[.int .i64 x.op, .int .i64 x.ln, .string x.s, .int .i64 x.v.k, .int .i64 x.v.n, .string x.v.s, .slice xa x.v.l.length xc, .slice la x.l.length lc] 75) = w1 at *
 generalize w.heap.size = B3 at *
 have HM1 := hid HM0.out.now
 obtain ⟨y0, y1, y2, y3, y4, y5, y6, y7⟩ := node_cells HG.out
 have HK0 := hid (fun (w5 : World) (h : NKept w1 w5) => node_cells (h _ _ _ HG.out))
 rcases hop2 with hop | hop | hop | hop | hop | hop | hop | hop | hop | hop | hop
 ·have HOP := hid hop
  have y0' : w1.cell? ⟨B3, 0, none⟩ = some (.int .i64 40) := by rw [← hop]; exact y0
  clear y0 hop
  obtain ⟨a, hxl, hra, hle⟩ := HRT.out.do HOP.out
  have HXL := hid hxl; have HLE := hid hle
  obtain ⟨b0, o0, ava, avc, al, alc, e0, -, hva, a0, a1, a2, a3, a4, a5, a6, a7⟩ := HNL.out.at (k := 0) (y := a) (by rw [HXL.out]; rfl)
  subst e0
  simp only [Nat.zero_mul, Nat.add_zero, Nat.one_mul, Nat.reduceMul] at a0 a1 a2 a3 a4 a5 a6 a7
  have HCa := hid (And.intro (And.intro a0 a1) (And.intro (And.intro a2 a3) (And.intro (And.intro a4 a5) (And.intro a6 a7)))); have HVa := hid hva; have HRa := hid hra
  have hcc : (a.cnt < N ∧ a.sz ≤ 1048576) := by
   have h := HB.out
   rw [HXL.out] at h
   simp only [cntL, szL] at h
   omega
  have HCC := hid hcc
  have hln : x.l.length = 1 := by rw [HXL.out]; rfl
  rw [hln] at y7
  rw [hln]
  have HLX := hid (show ∀ y ∈ [a], ∀ z, LnOf y.l z → LnOf x.l z from fun y hy z hz => hz.mono fun q hq => by
   rw [HXL.out]
   obtain ⟨i, hi, e⟩ := List.getElem_of_mem hy
   exact (walkL_at (k := i) (by rw [List.getElem?_eq_getElem hi, e])).2 q hq)
  clear hcc hln hxl hle a0 a1 a2 a3 a4 a5 a6 a7 hva hra 
  obtain ⟨⟨q0, q1⟩, ⟨q2, q3⟩, ⟨q4, q5⟩, q6, q7⟩ := HCa.out
  replace q0 := HM1.out.f.cell q0 not_false
  replace q1 := HM1.out.f.cell q1 not_false
  replace q2 := HM1.out.f.cell q2 not_false
  replace q3 := HM1.out.f.cell q3 not_false
  replace q4 := HM1.out.f.cell q4 not_false
  replace q5 := HM1.out.f.cell q5 not_false
  replace q6 := HM1.out.f.cell q6 not_false
  replace q7 := HM1.out.f.cell q7 not_false
  have HCE := hid (expr_to (a.cnt + 1) a (Nat.lt_succ_self _) (by have := HCC.out; omega) HRa.out D W w1 _ _ X C sv _ HVa.out HM1.out (by (try dsimp only); have := HL.out; have := HLE.out; omega))
  go_wp2_with fail
  refine HCE.out.mono ?_
  rintro e w2 ⟨rfl, c0, hc, hw⟩
  try dsimp only at hc hw
  have HCc0 := hid hc; have HMw2 := hid hw
  clear hc hw HCE q0 q1 q2 q3 q4 q5 q6 q7 y0' y1 y2 y3 y4 y5 y6 y7
  have hq : (m.L ++ c0 : List J).length = m.L.length + lenR a 0 := by rw [List.length_append, HCc0.out.1]
  have HN2 := hid hq
  clear hq
  have HP := hid (put0 HMw2.out 3 0 0 ⟨#[]⟩ (by rw [HN2.out]; have := HL.out; have := HLE.out; omega))
  go_wp2_with fail
  refine HP.out.mono ?_
  rintro e w3 ⟨rfl, hw⟩
  have HWF := hid hw
  clear hw HP
  go_wp2_with fail
  go_end0
  refine ⟨rfl, c0 ++ [⟨3, 0, 0, ⟨#[]⟩, m.ln⟩], m.nb, ⟨Nat.le_refl _, Nat.le_add_right _ _⟩, ?_, (HM0.out.since HWF.out).cast (by simp)⟩
  rw [show lenR x 7 - 1 = lenR a 0 + 1 by have := HLE.out; omega]
  exact (HCc0.out.put (j := (J.mk 3 (0) (0) ⟨#[]⟩ m.ln)) 1 0 (fun m => by simp [goesJ]) (by simp) (fun e => by simp at e) (by simp [ndT]) (by simp [ndG]) (by simp [ndTB, ndGB]) (by omega) (by omega) rfl (d' := 0) (by omega)).mono (fun z hz => .inl hz) (Nat.le_refl _)
 ·have HOP := hid hop
  have y0' : w1.cell? ⟨B3, 0, none⟩ = some (.int .i64 41) := by rw [← hop]; exact y0
  clear y0 hop
  have hif := HRT.out.ifr HOP.out
  have HIF := hid (show lenR x 7 - 1 = lenIf x.l by have := hif.2.1; omega)
  have HCI := hid (ifs_of N HIB.out x.l (by have := HB.out; omega) (by have := HB.out; omega) hif.1 D _ HNL.out HM1.out (by have := HL.out; have := HIF.out; omega) (by have := HL.out; have := HIF.out; omega))
  clear hif
  go_wp2_with fail
  refine HCI.out.mono ?_
  rintro e w3 ⟨rfl, c, nb, hnb, hc, hw⟩
  have HWF := hid hw; have HCF := hid (And.intro hnb hc)
  clear hw hnb hc HCI
  clear y0' y1 y2 y3 y4 y5 y6 y7
  go_wp2_with fail
  go_end0
  refine ⟨rfl, c, nb, (by rw [HIF.out]; exact HCF.out.1), ?_, (HM0.out.since HWF.out).cast (by simp)⟩
  rw [HIF.out]; exact HCF.out.2
 ·have HOP := hid hop
  have y0' : w1.cell? ⟨B3, 0, none⟩ = some (.int .i64 42) := by rw [← hop]; exact y0
  clear y0 hop
  obtain ⟨a, b, hxl, hra, hrb, hle⟩ := HRT.out.round (.inl HOP.out)
  rw [if_pos HOP.out] at hle
  have HXL := hid hxl; have HLE := hid hle
  obtain ⟨b0, o0, ava, avc, al, alc, e0, -, hva, a0, a1, a2, a3, a4, a5, a6, a7⟩ := HNL.out.at (k := 0) (y := a) (by rw [HXL.out]; rfl)
  subst e0
  obtain ⟨b1, o1, bva, bvc, bl, blc, e1, -, hvb, b0, b1, b2, b3, b4, b5, b6, b7⟩ := HNL.out.at (k := 1) (y := b) (by rw [HXL.out]; rfl)
  simp only [Option.some.injEq, Addr.mk.injEq] at e1
  obtain ⟨rfl, rfl, -⟩ := e1
  simp only [Nat.zero_mul, Nat.add_zero, Nat.one_mul, Nat.reduceMul] at a0 a1 a2 a3 a4 a5 a6 a7 b0 b1 b2 b3 b4 b5 b6 b7
  have HCa := hid (And.intro (And.intro a0 a1) (And.intro (And.intro a2 a3) (And.intro (And.intro a4 a5) (And.intro a6 a7)))); have HVa := hid hva; have HRa := hid hra
  have HCb := hid (And.intro (And.intro b0 b1) (And.intro (And.intro b2 b3) (And.intro (And.intro b4 b5) (And.intro b6 b7)))); have HVb := hid hvb; have HRb := hid hrb
  obtain ⟨bw, bv9, be, -, hnb⟩ := hvb.open
  obtain rfl : bv9 = .slice bl b.l.length blc := by simp at be; exact be.2.symm
  have HNb := hid hnb
  have HSb := hid hrb.block6
  have hcb := Nd.cnt_eq b; have hzb := Nd.sz_eq b
  clear be hnb
  have hcc : (a.cnt < N ∧ a.sz ≤ 1048576) ∧ (b.cnt < N ∧ b.sz ≤ 1048576 ∧ cntL b.l < N ∧ szL b.l ≤ 1048576) := by
   have h := HB.out
   rw [HXL.out] at h
   simp only [cntL, szL] at h
   omega
  have HCC := hid hcc
  have hln : x.l.length = 2 := by rw [HXL.out]; rfl
  rw [hln] at y7
  rw [hln]
  have HLX := hid (show ∀ y ∈ [a, b], ∀ z, LnOf y.l z → LnOf x.l z from fun y hy z hz => hz.mono fun q hq => by
   rw [HXL.out]
   obtain ⟨i, hi, e⟩ := List.getElem_of_mem hy
   exact (walkL_at (k := i) (by rw [List.getElem?_eq_getElem hi, e])).2 q hq)
  clear hcc hln hxl hle a0 a1 a2 a3 a4 a5 a6 a7 b0 b1 b2 b3 b4 b5 b6 b7 hva hra hvb hrb hcb hzb
  obtain ⟨⟨q0, q1⟩, ⟨q2, q3⟩, ⟨q4, q5⟩, q6, q7⟩ := HCa.out
  replace q0 := HM1.out.f.cell q0 not_false
  replace q1 := HM1.out.f.cell q1 not_false
  replace q2 := HM1.out.f.cell q2 not_false
  replace q3 := HM1.out.f.cell q3 not_false
  replace q4 := HM1.out.f.cell q4 not_false
  replace q5 := HM1.out.f.cell q5 not_false
  replace q6 := HM1.out.f.cell q6 not_false
  replace q7 := HM1.out.f.cell q7 not_false
  have HCE := hid (expr_to (a.cnt + 1) a (Nat.lt_succ_self _) (by have := HCC.out.1; omega) HRa.out D W w1 _ _ X C sv _ HVa.out HM1.out (by (try dsimp only); have := HL.out; have := HLE.out; omega))
  go_wp2_with fail
  refine HCE.out.mono ?_
  rintro e w2 ⟨rfl, c0, hc, hw⟩
  try dsimp only at hc hw
  have HCc0 := hid hc; have HMw2 := hid hw
  clear hc hw HCE q0 q1 q2 q3 q4 q5 q6 q7 
  have hq : (m.L ++ c0 : List J).length = m.L.length + lenR a 0 := by rw [List.length_append, HCc0.out.1]
  have HN2 := hid hq
  clear hq
  go_upto_region 10 with fail
  refine wp_region_ord [(0, 0), (1, 0), (2, 0), (3, 0), (4, 0), (5, 0), (6, 0), (7, 1)] (fun w' => Fr (fun _ => False) W w' ∧ NKept w1 w') (by kernel_rfl) (by kernel_rfl) (by kernel_rfl) rfl (fun _ _ d _ _ h => by cases d <;> exact h) ⟨HMw2.out.f.drew, (HMw2.out.fr (Fr.refl _ _).drew).kp⟩ ?_
  iterate 2 (refine wpO_take ?_ rfl (by kernel_rfl) ?_ ?_; rotate_left; (· intro w' hS; go_simp; try with_reducible rfl); try simp only [Act.put, List.setIfInBounds_toArray, List.set_cons_zero, List.set_cons_succ])
  (refine wpO_take ?_ rfl (by kernel_rfl) ?_ ?_; rotate_left; (· intro w' hS; obtain ⟨z0, z1, z2, z3, z4, z5, z6, z7⟩ := HK0.out w' hS.2; go_simp; try with_reducible rfl); try simp only [Act.put, List.setIfInBounds_toArray, List.set_cons_zero, List.set_cons_succ])
  iterate 3 (refine wpO_take ?_ rfl (by kernel_rfl) ?_ ?_; rotate_left; (· intro w' hS; go_simp; try with_reducible rfl); try simp only [Act.put, List.setIfInBounds_toArray, List.set_cons_zero, List.set_cons_succ])
  (refine wpO_take ?_ rfl (by kernel_rfl) ?_ ?_; rotate_left; (· intro w' hS; obtain ⟨⟨q0, q1⟩, ⟨q2, q3⟩, ⟨q4, q5⟩, q6, q7⟩ := HCb.out; replace q7 := hS.1.cell q7 not_false; go_simp; try with_reducible rfl); try simp only [Act.put, List.setIfInBounds_toArray, List.set_cons_zero, List.set_cons_succ])
  have HLP := hid (loop_of (W := W) (V := w1) (w := w2.drew) (X := X) (C := C) (sv := sv) N HIB.out (h := 1) (o1 := 36) (o2 := 37) (.inl ⟨rfl, rfl, rfl⟩) x.s b.l (by have := HCC.out.2; omega) (by have := HCC.out.2; omega) HSb.out.1 D _ HNb.out (HMw2.out.fr (Fr.refl _ _).drew) (by (try dsimp only); rw [HN2.out]; have := HL.out; have := HLE.out; have := HSb.out.2; omega) (by (try dsimp only); have := HL.out; have := HLE.out; have := HSb.out.2; omega))
  refine wpO_run rfl (by kernel_rfl) (fun K hK => ?_); go_simp
  refine HLP.out.mono ?_
  rintro e wl ⟨rfl, cl, nb, hnb, hc, hw⟩
  try dsimp only at hnb hc hw
  rw [HN2.out] at hc hw
  refine hK _ _ (fun _ => ⟨hw.f, hw.kp⟩) ?_
  clear hK K
  try simp only [Act.put, List.setIfInBounds_toArray, List.set_cons_zero, List.set_cons_succ]
  refine wpO_end ?_
  have HCl := hid (And.intro hnb hc); have HWF := hid hw
  clear hnb hc hw HLP
  clear y0' y1 y2 y3 y4 y5 y6 y7
  go_wp2_with fail
  go_end0
  refine ⟨rfl, c0 ++ ([(J.mk 36 (((m.L.length + lenR a 0 + (sumR 7 b.l + 3) : Nat) : Int)) (((m.L.length + lenR a 0 + 1 : Nat) : Int)) ⟨#[]⟩ m.ln)] ++ ([(J.mk 37 (((m.L.length + lenR a 0 + (sumR 7 b.l + 3) : Nat) : Int)) (0) x.s m.ln)] ++ cl ++ [(J.mk 6 (((m.L.length + lenR a 0 + 1 : Nat) : Int)) (0) ⟨#[]⟩ m.ln)])) ++ [(J.mk 41 (1 + 1) (0) ⟨#[]⟩ m.ln)], nb, ⟨HCl.out.1.1, by have := HCl.out.1.2; have := HLE.out; have := HSb.out.2; omega⟩, ?_, (HM0.out.since HWF.out).cast (by simp)⟩
  rw [show lenR x 7 - 1 = lenR a 0 + 2 + sumR 7 b.l + 2 by have := HLE.out; have := HSb.out.2; omega]
  have h1 := HCc0.out.mono (QL := fun z => z = m.ln ∨ LnOf x.l z) (fun z hz => .inl hz) HCl.out.1.1
  have h2 := HCl.out.2.mono (QL := fun z => z = m.ln ∨ LnOf x.l z) (fun z hz => .inr (HLX.out b (by simp) z hz)) (Nat.le_refl _)
  exact FC.loop (h := 1) (.inl ⟨rfl, rfl, rfl⟩) h1 (h2.at (by omega) rfl) (by omega) (by omega) (by omega) (by omega) (.inl rfl) (.inl rfl) (.inl rfl) (.inl rfl)
 ·have HOP := hid hop
  have y0' : w1.cell? ⟨B3, 0, none⟩ = some (.int .i64 43) := by rw [← hop]; exact y0
  clear y0 hop
  obtain ⟨a, b, d, hxl, hra, hrb, hrd, hle⟩ := HRT.out.forto HOP.out
  have HXL := hid hxl; have HLE := hid hle
  obtain ⟨b0, o0, ava, avc, al, alc, e0, -, hva, a0, a1, a2, a3, a4, a5, a6, a7⟩ := HNL.out.at (k := 0) (y := a) (by rw [HXL.out]; rfl)
  subst e0
  obtain ⟨b1, o1, bva, bvc, bl, blc, e1, -, hvb, b0, b1, b2, b3, b4, b5, b6, b7⟩ := HNL.out.at (k := 1) (y := b) (by rw [HXL.out]; rfl)
  simp only [Option.some.injEq, Addr.mk.injEq] at e1
  obtain ⟨rfl, rfl, -⟩ := e1
  obtain ⟨b2, o2, dva, dvc, dl, dlc, e2, -, hvd, d0, d1, d2, d3, d4, d5, d6, d7⟩ := HNL.out.at (k := 2) (y := d) (by rw [HXL.out]; rfl)
  simp only [Option.some.injEq, Addr.mk.injEq] at e2
  obtain ⟨rfl, rfl, -⟩ := e2
  simp only [Nat.zero_mul, Nat.add_zero, Nat.one_mul, Nat.reduceMul] at a0 a1 a2 a3 a4 a5 a6 a7 b0 b1 b2 b3 b4 b5 b6 b7 d0 d1 d2 d3 d4 d5 d6 d7
  have HCa := hid (And.intro (And.intro a0 a1) (And.intro (And.intro a2 a3) (And.intro (And.intro a4 a5) (And.intro a6 a7)))); have HVa := hid hva; have HRa := hid hra
  have HCb := hid (And.intro (And.intro b0 b1) (And.intro (And.intro b2 b3) (And.intro (And.intro b4 b5) (And.intro b6 b7)))); have HVb := hid hvb; have HRb := hid hrb
  have HCd := hid (And.intro (And.intro d0 d1) (And.intro (And.intro d2 d3) (And.intro (And.intro d4 d5) (And.intro d6 d7)))); have HVd := hid hvd; have HRd := hid hrd
  obtain ⟨dw, dv9, de, -, hnd⟩ := hvd.open
  obtain rfl : dv9 = .slice dl d.l.length dlc := by simp at de; exact de.2.symm
  have HNd := hid hnd
  have HSd := hid hrd.block6
  have hcd := Nd.cnt_eq d; have hzd := Nd.sz_eq d
  clear de hnd
  have hcc : (a.cnt < N ∧ a.sz ≤ 1048576) ∧ (b.cnt < N ∧ b.sz ≤ 1048576) ∧ (d.cnt < N ∧ d.sz ≤ 1048576 ∧ cntL d.l < N ∧ szL d.l ≤ 1048576) := by
   have h := HB.out
   rw [HXL.out] at h
   simp only [cntL, szL] at h
   omega
  have HCC := hid hcc
  have hln : x.l.length = 3 := by rw [HXL.out]; rfl
  rw [hln] at y7
  rw [hln]
  have HLX := hid (show ∀ y ∈ [a, b, d], ∀ z, LnOf y.l z → LnOf x.l z from fun y hy z hz => hz.mono fun q hq => by
   rw [HXL.out]
   obtain ⟨i, hi, e⟩ := List.getElem_of_mem hy
   exact (walkL_at (k := i) (by rw [List.getElem?_eq_getElem hi, e])).2 q hq)
  clear hcc hln hxl hle a0 a1 a2 a3 a4 a5 a6 a7 b0 b1 b2 b3 b4 b5 b6 b7 d0 d1 d2 d3 d4 d5 d6 d7 hva hra hvb hrb hvd hrd hcd hzd
  obtain ⟨⟨q0, q1⟩, ⟨q2, q3⟩, ⟨q4, q5⟩, q6, q7⟩ := HCa.out
  replace q0 := HM1.out.f.cell q0 not_false
  replace q1 := HM1.out.f.cell q1 not_false
  replace q2 := HM1.out.f.cell q2 not_false
  replace q3 := HM1.out.f.cell q3 not_false
  replace q4 := HM1.out.f.cell q4 not_false
  replace q5 := HM1.out.f.cell q5 not_false
  replace q6 := HM1.out.f.cell q6 not_false
  replace q7 := HM1.out.f.cell q7 not_false
  have HCE := hid (expr_to (a.cnt + 1) a (Nat.lt_succ_self _) (by have := HCC.out.1; omega) HRa.out D W w1 _ _ X C sv _ HVa.out HM1.out (by (try dsimp only); have := HL.out; have := HLE.out; omega))
  go_wp2_with fail
  refine HCE.out.mono ?_
  rintro e w2 ⟨rfl, c0, hc, hw⟩
  try dsimp only at hc hw
  have HCc0 := hid hc; have HMw2 := hid hw
  clear hc hw HCE q0 q1 q2 q3 q4 q5 q6 q7 
  have hq : (m.L ++ c0 : List J).length = m.L.length + lenR a 0 := by rw [List.length_append, HCc0.out.1]
  have HN2 := hid hq
  clear hq
  obtain ⟨⟨q0, q1⟩, ⟨q2, q3⟩, ⟨q4, q5⟩, q6, q7⟩ := HCb.out
  replace q0 := HMw2.out.f.cell q0 not_false
  replace q1 := HMw2.out.f.cell q1 not_false
  replace q2 := HMw2.out.f.cell q2 not_false
  replace q3 := HMw2.out.f.cell q3 not_false
  replace q4 := HMw2.out.f.cell q4 not_false
  replace q5 := HMw2.out.f.cell q5 not_false
  replace q6 := HMw2.out.f.cell q6 not_false
  replace q7 := HMw2.out.f.cell q7 not_false
  have HCE := hid (expr_to (b.cnt + 1) b (Nat.lt_succ_self _) (by have := HCC.out.2.1; omega) HRb.out D W w1 _ _ X C sv _ HVb.out HMw2.out (by (try dsimp only); rw [HN2.out]; have := HL.out; have := HLE.out; omega))
  go_wp2_with fail
  refine HCE.out.mono ?_
  rintro e w3 ⟨rfl, c1, hc, hw⟩
  try dsimp only at hc hw
  rw [HN2.out] at hc
  have HCc1 := hid hc; have HMw3 := hid hw
  clear hc hw HCE q0 q1 q2 q3 q4 q5 q6 q7 
  have hq : (m.L ++ c0 ++ c1 : List J).length = m.L.length + (lenR a 0 + lenR b 0) := by rw [List.length_append, HN2.out, HCc1.out.1]; omega
  have HN3 := hid hq
  clear hq
  go_upto_region 14 with fail
  refine wp_region_ord [(0, 0), (1, 0), (2, 0), (3, 0), (4, 0), (5, 0), (6, 0), (7, 1)] (fun w' => Fr (fun _ => False) W w' ∧ NKept w1 w') (by kernel_rfl) (by kernel_rfl) (by kernel_rfl) rfl (fun _ _ d _ _ h => by cases d <;> exact h) ⟨HMw3.out.f.drew, (HMw3.out.fr (Fr.refl _ _).drew).kp⟩ ?_
  iterate 2 (refine wpO_take ?_ rfl (by kernel_rfl) ?_ ?_; rotate_left; (· intro w' hS; go_simp; try with_reducible rfl); try simp only [Act.put, List.setIfInBounds_toArray, List.set_cons_zero, List.set_cons_succ])
  (refine wpO_take ?_ rfl (by kernel_rfl) ?_ ?_; rotate_left; (· intro w' hS; obtain ⟨z0, z1, z2, z3, z4, z5, z6, z7⟩ := HK0.out w' hS.2; go_simp; try with_reducible rfl); try simp only [Act.put, List.setIfInBounds_toArray, List.set_cons_zero, List.set_cons_succ])
  iterate 3 (refine wpO_take ?_ rfl (by kernel_rfl) ?_ ?_; rotate_left; (· intro w' hS; go_simp; try with_reducible rfl); try simp only [Act.put, List.setIfInBounds_toArray, List.set_cons_zero, List.set_cons_succ])
  (refine wpO_take ?_ rfl (by kernel_rfl) ?_ ?_; rotate_left; (· intro w' hS; obtain ⟨⟨q0, q1⟩, ⟨q2, q3⟩, ⟨q4, q5⟩, q6, q7⟩ := HCd.out; replace q7 := hS.1.cell q7 not_false; go_simp; try with_reducible rfl); try simp only [Act.put, List.setIfInBounds_toArray, List.set_cons_zero, List.set_cons_succ])
  have HLP := hid (loop_of (W := W) (V := w1) (w := w3.drew) (X := X) (C := C) (sv := sv) N HIB.out (h := 2) (o1 := 38) (o2 := 39) (.inr ⟨rfl, rfl, rfl⟩) x.s d.l (by have := HCC.out.2.2; omega) (by have := HCC.out.2.2; omega) HSd.out.1 D _ HNd.out (HMw3.out.fr (Fr.refl _ _).drew) (by (try dsimp only); rw [HN3.out]; have := HL.out; have := HLE.out; have := HSd.out.2; omega) (by (try dsimp only); have := HL.out; have := HLE.out; have := HSd.out.2; omega))
  refine wpO_run rfl (by kernel_rfl) (fun K hK => ?_); go_simp
  refine HLP.out.mono ?_
  rintro e wl ⟨rfl, cl, nb, hnb, hc, hw⟩
  try dsimp only at hnb hc hw
  rw [HN3.out] at hc hw
  refine hK _ _ (fun _ => ⟨hw.f, hw.kp⟩) ?_
  clear hK K
  try simp only [Act.put, List.setIfInBounds_toArray, List.set_cons_zero, List.set_cons_succ]
  refine wpO_end ?_
  have HCl := hid (And.intro hnb hc); have HWF := hid hw
  clear hnb hc hw HLP
  clear y0' y1 y2 y3 y4 y5 y6 y7
  go_wp2_with fail
  go_end0
  refine ⟨rfl, (c0 ++ c1) ++ ([(J.mk 38 (((m.L.length + (lenR a 0 + lenR b 0) + (sumR 7 d.l + 3) : Nat) : Int)) (((m.L.length + (lenR a 0 + lenR b 0) + 1 : Nat) : Int)) ⟨#[]⟩ m.ln)] ++ ([(J.mk 39 (((m.L.length + (lenR a 0 + lenR b 0) + (sumR 7 d.l + 3) : Nat) : Int)) (0) x.s m.ln)] ++ cl ++ [(J.mk 6 (((m.L.length + (lenR a 0 + lenR b 0) + 1 : Nat) : Int)) (0) ⟨#[]⟩ m.ln)])) ++ [(J.mk 41 (2 + 1) (0) ⟨#[]⟩ m.ln)], nb, ⟨HCl.out.1.1, by have := HCl.out.1.2; have := HLE.out; have := HSd.out.2; omega⟩, ?_, (HM0.out.since HWF.out).cast (by simp)⟩
  rw [show lenR x 7 - 1 = (lenR a 0 + lenR b 0) + 2 + sumR 7 d.l + 2 by have := HLE.out; have := HSd.out.2; omega]
  have h1 := (HCc0.out.cat HCc1.out).mono (QL := fun z => z = m.ln ∨ LnOf x.l z) (fun z hz => .inl hz) HCl.out.1.1
  have h2 := HCl.out.2.mono (QL := fun z => z = m.ln ∨ LnOf x.l z) (fun z hz => .inr (HLX.out d (by simp) z hz)) (Nat.le_refl _)
  exact FC.loop (h := 2) (.inr ⟨rfl, rfl, rfl⟩) h1 (h2.at (by omega) rfl) (by omega) (by omega) (by omega) (by omega) (.inl rfl) (.inl rfl) (.inl rfl) (.inl rfl)
 ·have HOP := hid hop
  have y0' : w1.cell? ⟨B3, 0, none⟩ = some (.int .i64 44) := by rw [← hop]; exact y0
  clear y0 hop
  obtain ⟨a, b, hxl, hra, hrb, hle⟩ := HRT.out.round (.inr HOP.out)
  rw [if_neg (by rw [HOP.out]; decide)] at hle
  have HXL := hid hxl; have HLE := hid hle
  obtain ⟨b0, o0, ava, avc, al, alc, e0, -, hva, a0, a1, a2, a3, a4, a5, a6, a7⟩ := HNL.out.at (k := 0) (y := a) (by rw [HXL.out]; rfl)
  subst e0
  obtain ⟨b1, o1, bva, bvc, bl, blc, e1, -, hvb, b0, b1, b2, b3, b4, b5, b6, b7⟩ := HNL.out.at (k := 1) (y := b) (by rw [HXL.out]; rfl)
  simp only [Option.some.injEq, Addr.mk.injEq] at e1
  obtain ⟨rfl, rfl, -⟩ := e1
  simp only [Nat.zero_mul, Nat.add_zero, Nat.one_mul, Nat.reduceMul] at a0 a1 a2 a3 a4 a5 a6 a7 b0 b1 b2 b3 b4 b5 b6 b7
  have HCa := hid (And.intro (And.intro a0 a1) (And.intro (And.intro a2 a3) (And.intro (And.intro a4 a5) (And.intro a6 a7)))); have HVa := hid hva; have HRa := hid hra
  have HCb := hid (And.intro (And.intro b0 b1) (And.intro (And.intro b2 b3) (And.intro (And.intro b4 b5) (And.intro b6 b7)))); have HVb := hid hvb; have HRb := hid hrb
  obtain ⟨bw, bv9, be, -, hnb⟩ := hvb.open
  obtain rfl : bv9 = .slice bl b.l.length blc := by simp at be; exact be.2.symm
  have HNb := hid hnb
  have HSb := hid hrb.block6
  have hcb := Nd.cnt_eq b; have hzb := Nd.sz_eq b
  clear be hnb
  have hcc : (a.cnt < N ∧ a.sz ≤ 1048576) ∧ (b.cnt < N ∧ b.sz ≤ 1048576 ∧ cntL b.l < N ∧ szL b.l ≤ 1048576) := by
   have h := HB.out
   rw [HXL.out] at h
   simp only [cntL, szL] at h
   omega
  have HCC := hid hcc
  have hln : x.l.length = 2 := by rw [HXL.out]; rfl
  rw [hln] at y7
  rw [hln]
  have HLX := hid (show ∀ y ∈ [a, b], ∀ z, LnOf y.l z → LnOf x.l z from fun y hy z hz => hz.mono fun q hq => by
   rw [HXL.out]
   obtain ⟨i, hi, e⟩ := List.getElem_of_mem hy
   exact (walkL_at (k := i) (by rw [List.getElem?_eq_getElem hi, e])).2 q hq)
  clear hcc hln hxl hle a0 a1 a2 a3 a4 a5 a6 a7 b0 b1 b2 b3 b4 b5 b6 b7 hva hra hvb hrb hcb hzb
  go_upto_region 16 with fail
  refine wp_region_ord [(0, 0), (1, 0), (2, 0), (3, 0), (4, 0), (5, 0), (6, 0), (7, 0), (8, 1)] (fun w' => Fr (fun _ => False) W w') (by kernel_rfl) (by kernel_rfl) (by kernel_rfl) rfl (fun _ _ d _ _ h => by cases d <;> exact h) HM1.out.f.drew ?_
  iterate 3 (refine wpO_take ?_ rfl (by kernel_rfl) ?_ ?_; rotate_left; (· intro w' hS; go_simp; try with_reducible rfl); try simp only [Act.put, List.setIfInBounds_toArray, List.set_cons_zero, List.set_cons_succ])
  (refine wpO_take ?_ rfl (by kernel_rfl) ?_ ?_; rotate_left; (· intro w' hS; obtain ⟨⟨q0, q1⟩, ⟨q2, q3⟩, ⟨q4, q5⟩, q6, q7⟩ := HCa.out; replace q0 := hS.cell q0 not_false; replace q1 := hS.cell q1 not_false; replace q2 := hS.cell q2 not_false; replace q3 := hS.cell q3 not_false; replace q4 := hS.cell q4 not_false; replace q5 := hS.cell q5 not_false; replace q6 := hS.cell q6 not_false; replace q7 := hS.cell q7 not_false; go_simp; try with_reducible rfl); try simp only [Act.put, List.setIfInBounds_toArray, List.set_cons_zero, List.set_cons_succ])
  iterate 3 (refine wpO_take ?_ rfl (by kernel_rfl) ?_ ?_; rotate_left; (· intro w' hS; go_simp; try with_reducible rfl); try simp only [Act.put, List.setIfInBounds_toArray, List.set_cons_zero, List.set_cons_succ])
  (refine wpO_take ?_ rfl (by kernel_rfl) ?_ ?_; rotate_left; (· intro w' hS; obtain ⟨⟨q0, q1⟩, ⟨q2, q3⟩, ⟨q4, q5⟩, q6, q7⟩ := HCb.out; replace q7 := hS.cell q7 not_false; go_simp; try with_reducible rfl); try simp only [Act.put, List.setIfInBounds_toArray, List.set_cons_zero, List.set_cons_succ])
  have HLP := hid (while_of (W := W) (V := w1) (w := w1.drew) (X := X) (C := C) (sv := sv) N HIB.out a b.l (by have := HCC.out.2; omega) (by have := HCC.out.1; omega) (by have := HCC.out.2; omega) HRa.out HSb.out.1 D _ _ HVa.out HNb.out (HM1.out.fr (Fr.refl _ _).drew) (by have := HL.out; have := HLE.out; have := HSb.out.2; omega) (by have := HL.out; have := HLE.out; have := HSb.out.2; omega))
  refine wpO_run rfl (by kernel_rfl) (fun K hK => ?_); go_simp
  refine HLP.out.mono ?_
  rintro e wl ⟨rfl, c0, cl, nb, hnb, hc0, hc, hw⟩
  refine hK _ _ (fun _ => hw.f) ?_
  clear hK K
  try simp only [Act.put, List.setIfInBounds_toArray, List.set_cons_zero, List.set_cons_succ]
  refine wpO_end ?_
  have HCl := hid (And.intro hnb (And.intro hc0 hc)); have HWF := hid hw
  clear hnb hc0 hc hw HLP
  clear y0' y1 y2 y3 y4 y5 y6 y7
  go_wp2_with fail
  go_end0
  refine ⟨rfl, [(J.mk 40 (((m.L.length + (lenR a 0 + 3 + sumR 7 b.l + 1) : Nat) : Int)) (((m.L.length + 1 : Nat) : Int)) ⟨#[]⟩ m.ln)] ++ (c0 ++ [(J.mk 7 (((m.L.length + (lenR a 0 + 3 + sumR 7 b.l + 1) : Nat) : Int)) (0) ⟨#[]⟩ m.ln)] ++ [(J.mk 35 (0) (0) ⟨#[]⟩ m.ln)] ++ cl ++ [(J.mk 6 (((m.L.length + 1 : Nat) : Int)) (0) ⟨#[]⟩ m.ln)]) ++ [(J.mk 41 (0) (0) ⟨#[]⟩ m.ln)], nb, ⟨HCl.out.1.1, by have := HCl.out.1.2; have := HLE.out; have := HSb.out.2; omega⟩, ?_, (HM0.out.since HWF.out).cast (by simp)⟩
  rw [show lenR x 7 - 1 = lenR a 0 + 3 + sumR 7 b.l + 2 by have := HLE.out; have := HSb.out.2; omega]
  have h1 := HCl.out.2.1.mono (QL := fun z => z = m.ln ∨ LnOf x.l z) (fun z hz => .inl hz) HCl.out.1.1
  have h2 := HCl.out.2.2.mono (QL := fun z => z = m.ln ∨ LnOf x.l z) (fun z hz => .inr (HLX.out b (by simp) z hz)) (Nat.le_refl _)
  exact FC.while h1 h2 (by omega) (by omega) (by omega) (by omega) rfl (.inl rfl) (.inl rfl) (.inl rfl) (.inl rfl) (.inl rfl)
 ·have HOP := hid hop
  have y0' : w1.cell? ⟨B3, 0, none⟩ = some (.int .i64 45) := by rw [← hop]; exact y0
  clear y0 hop
  have hle := HRT.out.away (.inl HOP.out)
  have HLE := hid hle
  have HP := hid (put0 HM1.out 42 0 0 ⟨#[]⟩ (by have := HL.out; have := HLE.out; omega))
  clear hle
  go_wp2_with fail
  refine HP.out.mono ?_
  rintro e w3 ⟨rfl, hw⟩
  have HWF := hid hw
  clear hw HP
  clear y0' y1 y2 y3 y4 y5 y6 y7
  go_wp2_with fail
  go_end0
  refine ⟨rfl, [⟨42, 0, 0, ⟨#[]⟩, m.ln⟩], m.nb, ⟨Nat.le_refl _, Nat.le_add_right _ _⟩, ?_, (HM0.out.since HWF.out).cast (by simp)⟩
  rw [HLE.out]
  exact FC.leave (.inl rfl) (.inl rfl)
 ·have HOP := hid hop
  have y0' : w1.cell? ⟨B3, 0, none⟩ = some (.int .i64 46) := by rw [← hop]; exact y0
  clear y0 hop
  have hle := HRT.out.away (.inr HOP.out)
  have HLE := hid hle
  have HP := hid (put0 HM1.out 43 0 0 ⟨#[]⟩ (by have := HL.out; have := HLE.out; omega))
  clear hle
  go_wp2_with fail
  refine HP.out.mono ?_
  rintro e w3 ⟨rfl, hw⟩
  have HWF := hid hw
  clear hw HP
  clear y0' y1 y2 y3 y4 y5 y6 y7
  go_wp2_with fail
  go_end0
  refine ⟨rfl, [⟨43, 0, 0, ⟨#[]⟩, m.ln⟩], m.nb, ⟨Nat.le_refl _, Nat.le_add_right _ _⟩, ?_, (HM0.out.since HWF.out).cast (by simp)⟩
  rw [HLE.out]
  exact FC.leave (.inr rfl) (.inl rfl)
 ·have HOP := hid hop
  have y0' : w1.cell? ⟨B3, 0, none⟩ = some (.int .i64 47) := by rw [← hop]; exact y0
  clear y0 hop
  rcases HRT.out.ret HOP.out with ⟨hxl, hle⟩ | ⟨a, hxl, hra, hle⟩
  ·have HLE := hid hle
   have hln : x.l.length = 0 := by rw [hxl]; rfl
   rw [hln] at y7
   rw [hln]
   have HI := hid (mI_any 0 w1)
   clear hln hxl hle
   go_wp2_with fail
   refine HI.out.mono ?_
   rintro e w2 ⟨rfl, hf2⟩
   have HM2 := hid (HM1.out.fr hf2)
   have HP := hid (put_any HM2.out 1 0 0 ⟨#[]⟩ (.int .i64 0) (.int .i64 0) (.string ⟨#[]⟩) (.slice none 0 0) ⟨rfl, rfl, rfl, rfl⟩ (by have := HL.out; have := HLE.out; omega))
   clear HI hf2
   go_wp2_with fail
   refine HP.out.mono ?_
   rintro e w3 ⟨rfl, hw⟩
   have HP2 := hid (put0 hw 44 0 0 ⟨#[]⟩ (by rw [List.length_append]; have := HL.out; have := HLE.out; simp only [List.length_cons, List.length_nil]; omega))
   clear hw HP y0' y1 y2 y3 y4 y5 y6 y7
   go_wp2_with fail
   refine HP2.out.mono ?_
   rintro e w4 ⟨rfl, hw⟩
   have HWF := hid hw
   clear hw HP2
   go_wp2_with fail
   go_end0
   refine ⟨rfl, [(J.mk 1 (0) (0) ⟨#[]⟩ m.ln)] ++ [(J.mk 44 (0) (0) ⟨#[]⟩ m.ln)], m.nb, ⟨Nat.le_refl _, Nat.le_add_right _ _⟩, ?_, (HM0.out.since HWF.out).cast (by simp)⟩
   rw [HLE.out]
   have h1 : FC (fun z => z = m.ln ∨ LnOf x.l z) m.nb m.L.length 1 [(J.mk 1 (0) (0) ⟨#[]⟩ m.ln)] 1 := FC.one' (fun k => by simp [goesJ]) (by simp) (by simp) (by simp [ndT]) (by simp [ndG]) (by simp [ndTB, ndGB]) (.inl rfl)
   exact h1.back (.inl rfl)
  ·have HXL := hid hxl; have HLE := hid hle
   obtain ⟨b0, o0, ava, avc, al, alc, e0, -, hva, a0, a1, a2, a3, a4, a5, a6, a7⟩ := HNL.out.at (k := 0) (y := a) (by rw [HXL.out]; rfl)
   subst e0
   simp only [Nat.zero_mul, Nat.add_zero, Nat.one_mul, Nat.reduceMul] at a0 a1 a2 a3 a4 a5 a6 a7
   have HCa := hid (And.intro (And.intro a0 a1) (And.intro (And.intro a2 a3) (And.intro (And.intro a4 a5) (And.intro a6 a7)))); have HVa := hid hva; have HRa := hid hra
   have hcc : (a.cnt < N ∧ a.sz ≤ 1048576) := by
    have h := HB.out
    rw [HXL.out] at h
    simp only [cntL, szL] at h
    omega
   have HCC := hid hcc
   have hln : x.l.length = 1 := by rw [HXL.out]; rfl
   rw [hln] at y7
   rw [hln]
   have HLX := hid (show ∀ y ∈ [a], ∀ z, LnOf y.l z → LnOf x.l z from fun y hy z hz => hz.mono fun q hq => by
    rw [HXL.out]
    obtain ⟨i, hi, e⟩ := List.getElem_of_mem hy
    exact (walkL_at (k := i) (by rw [List.getElem?_eq_getElem hi, e])).2 q hq)
   clear hcc hln hxl hle a0 a1 a2 a3 a4 a5 a6 a7 hva hra 
   obtain ⟨⟨q0, q1⟩, ⟨q2, q3⟩, ⟨q4, q5⟩, q6, q7⟩ := HCa.out
   replace q0 := HM1.out.f.cell q0 not_false
   replace q1 := HM1.out.f.cell q1 not_false
   replace q2 := HM1.out.f.cell q2 not_false
   replace q3 := HM1.out.f.cell q3 not_false
   replace q4 := HM1.out.f.cell q4 not_false
   replace q5 := HM1.out.f.cell q5 not_false
   replace q6 := HM1.out.f.cell q6 not_false
   replace q7 := HM1.out.f.cell q7 not_false
   have HCE := hid (expr_to (a.cnt + 1) a (Nat.lt_succ_self _) (by have := HCC.out; omega) HRa.out D W w1 _ _ X C sv _ HVa.out HM1.out (by (try dsimp only); have := HL.out; have := HLE.out; omega))
   go_wp2_with fail
   refine HCE.out.mono ?_
   rintro e w2 ⟨rfl, c0, hc, hw⟩
   try dsimp only at hc hw
   have HCc0 := hid hc; have HMw2 := hid hw
   clear hc hw HCE q0 q1 q2 q3 q4 q5 q6 q7 y0' y1 y2 y3 y4 y5 y6 y7
   have hq : (m.L ++ c0 : List J).length = m.L.length + lenR a 0 := by rw [List.length_append, HCc0.out.1]
   have HN2 := hid hq
   clear hq
   have HP := hid (put0 HMw2.out 44 0 0 ⟨#[]⟩ (by rw [HN2.out]; have := HL.out; have := HLE.out; omega))
   go_wp2_with fail
   refine HP.out.mono ?_
   rintro e w3 ⟨rfl, hw⟩
   have HWF := hid hw
   clear hw HP
   go_wp2_with fail
   go_end0
   refine ⟨rfl, c0 ++ [⟨44, 0, 0, ⟨#[]⟩, m.ln⟩], m.nb, ⟨Nat.le_refl _, Nat.le_add_right _ _⟩, ?_, (HM0.out.since HWF.out).cast (by simp)⟩
   rw [show lenR x 7 - 1 = lenR a 0 + 1 by have := HLE.out; omega]
   exact (HCc0.out.mono (QL := fun z => z = m.ln ∨ LnOf x.l z) (fun z hz => .inl hz) (Nat.le_refl _)).back (.inl rfl)
 ·have HOP := hid hop
  have y0' : w1.cell? ⟨B3, 0, none⟩ = some (.int .i64 48) := by rw [← hop]; exact y0
  clear y0 hop
  obtain ⟨a, b, hxl, hra, hrb, hle⟩ := HRT.out.fork HOP.out
  have HXL := hid hxl; have HLE := hid hle
  obtain ⟨b0, o0, ava, avc, al, alc, e0, -, hva, a0, a1, a2, a3, a4, a5, a6, a7⟩ := HNL.out.at (k := 0) (y := a) (by rw [HXL.out]; rfl)
  subst e0
  obtain ⟨b1, o1, bva, bvc, bl, blc, e1, -, hvb, b0, b1, b2, b3, b4, b5, b6, b7⟩ := HNL.out.at (k := 1) (y := b) (by rw [HXL.out]; rfl)
  simp only [Option.some.injEq, Addr.mk.injEq] at e1
  obtain ⟨rfl, rfl, -⟩ := e1
  simp only [Nat.zero_mul, Nat.add_zero, Nat.one_mul, Nat.reduceMul] at a0 a1 a2 a3 a4 a5 a6 a7 b0 b1 b2 b3 b4 b5 b6 b7
  have HCa := hid (And.intro (And.intro a0 a1) (And.intro (And.intro a2 a3) (And.intro (And.intro a4 a5) (And.intro a6 a7)))); have HVa := hid hva; have HRa := hid hra
  have HCb := hid (And.intro (And.intro b0 b1) (And.intro (And.intro b2 b3) (And.intro (And.intro b4 b5) (And.intro b6 b7)))); have HVb := hid hvb; have HRb := hid hrb
  obtain ⟨bw, bv9, be, -, hnb⟩ := hvb.open
  obtain rfl : bv9 = .slice bl b.l.length blc := by simp at be; exact be.2.symm
  have HNb := hid hnb
  have HSb := hid hrb.block6
  have hcb := Nd.cnt_eq b; have hzb := Nd.sz_eq b
  clear be hnb
  have hcc : (a.cnt < N ∧ a.sz ≤ 1048576) ∧ (b.cnt < N ∧ b.sz ≤ 1048576 ∧ cntL b.l < N ∧ szL b.l ≤ 1048576) := by
   have h := HB.out
   rw [HXL.out] at h
   simp only [cntL, szL] at h
   omega
  have HCC := hid hcc
  have hln : x.l.length = 2 := by rw [HXL.out]; rfl
  rw [hln] at y7
  rw [hln]
  have HLX := hid (show ∀ y ∈ [a, b], ∀ z, LnOf y.l z → LnOf x.l z from fun y hy z hz => hz.mono fun q hq => by
   rw [HXL.out]
   obtain ⟨i, hi, e⟩ := List.getElem_of_mem hy
   exact (walkL_at (k := i) (by rw [List.getElem?_eq_getElem hi, e])).2 q hq)
  clear hcc hln hxl hle a0 a1 a2 a3 a4 a5 a6 a7 b0 b1 b2 b3 b4 b5 b6 b7 hva hra hvb hrb hcb hzb
  obtain ⟨⟨q0, q1⟩, ⟨q2, q3⟩, ⟨q4, q5⟩, q6, q7⟩ := HCa.out
  replace q0 := HM1.out.f.cell q0 not_false
  replace q1 := HM1.out.f.cell q1 not_false
  replace q2 := HM1.out.f.cell q2 not_false
  replace q3 := HM1.out.f.cell q3 not_false
  replace q4 := HM1.out.f.cell q4 not_false
  replace q5 := HM1.out.f.cell q5 not_false
  replace q6 := HM1.out.f.cell q6 not_false
  replace q7 := HM1.out.f.cell q7 not_false
  have HCE := hid (expr_to (a.cnt + 1) a (Nat.lt_succ_self _) (by have := HCC.out.1; omega) HRa.out D W w1 _ _ X C sv _ HVa.out HM1.out (by (try dsimp only); have := HL.out; have := HLE.out; omega))
  go_wp2_with fail
  refine HCE.out.mono ?_
  rintro e w2 ⟨rfl, c0, hc, hw⟩
  try dsimp only at hc hw
  have HCc0 := hid hc; have HMw2 := hid hw
  clear hc hw HCE q0 q1 q2 q3 q4 q5 q6 q7 y0' y1 y2 y3 y4 y5 y6 y7
  have hq : (m.L ++ c0 : List J).length = m.L.length + lenR a 0 := by rw [List.length_append, HCc0.out.1]
  have HN2 := hid hq
  clear hq
  obtain ⟨lv, nv, bv, xs, zs, hc2, ho1, hins, ho2, ho3⟩ := HMw2.out.hC
  have hXb : ¬ some X = bv.ownBlock := fun e => own_ne_cells ho3 HMw2.out.hX (by decide) X e.symm rfl
  have hCb : ¬ some C = bv.ownBlock := fun e => own_ne_cells ho3 hc2 (by decide) C e.symm rfl
  have x0 := HMw2.out.cells.1
  have c2 : w2.cell? ⟨C, 2, none⟩ = some bv := by rw [cell_of_row _ _ _ _ _ _ hc2]; rfl
  obtain ⟨⟨q0, q1⟩, ⟨q2, q3⟩, ⟨q4, q5⟩, q6, q7⟩ := HCb.out
  have q7' := HMw2.out.f.cell q7 not_false
  have hqb : ¬ some b0 = bv.ownBlock := fun e => by
   have h1 := (ho3.lt _ e.symm).1
   have h2 := World.block_lt_of_cell? _ _ q7
   dsimp only at h2
   omega
  have X0 := hid x0; have C2 := hid c2; have Q7 := hid q7'; have HXB := hid hXb; have HCB := hid hCb; have HQB := hid hqb
  have HO1 := hid ho1; have HO2 := hid ho2; have HO3 := hid ho3; have HINS := hid hins; have HHC := hid hc2; have HHX := hid HMw2.out.hX
  clear hc2 ho1 hins ho2 ho3 hXb hCb x0 c2 q0 q1 q2 q3 q4 q5 q6 q7 q7' hqb
  go_upto_region 28 with fail
  refine wp_region_ord [(0, 0), (1, 0), (2, 0), (3, 0), (4, 0), (5, 0), (6, 0), (7, 0), (8, 0), (9, 0), (10, 0), (11, 0), (12, 0), (13, 0), (14, 0), (15, 1), (16, 1), (17, 1), (18, 1), (19, 1), (20, 1)] (fun w' => Fr (fun k => some k = bv.ownBlock) w2 w') (by kernel_rfl) (by kernel_rfl) (by kernel_rfl) rfl (fun _ _ d _ _ h => by cases d <;> exact h) (Fr.refl _ _).drew ?_
  iterate 3 (refine wpO_take ?_ rfl (by kernel_rfl) ?_ ?_; rotate_left; (· intro w' hS; go_simp; try with_reducible rfl); try simp only [Act.put, List.setIfInBounds_toArray, List.set_cons_zero, List.set_cons_succ])
  (refine wpO_take ?_ rfl (by kernel_rfl) ?_ ?_; rotate_left; (· intro w' hS; have d1 := hS.cell X0.out HXB.out; go_simp; try with_reducible rfl); try simp only [Act.put, List.setIfInBounds_toArray, List.set_cons_zero, List.set_cons_succ])
  iterate 3 (refine wpO_take ?_ rfl (by kernel_rfl) ?_ ?_; rotate_left; (· intro w' hS; go_simp; try with_reducible rfl); try simp only [Act.put, List.setIfInBounds_toArray, List.set_cons_zero, List.set_cons_succ])
  (refine wpO_take ?_ rfl (by kernel_rfl) ?_ ?_; rotate_left; (· intro w' hS; have d1 := hS.cell X0.out HXB.out; go_simp; try with_reducible rfl); try simp only [Act.put, List.setIfInBounds_toArray, List.set_cons_zero, List.set_cons_succ])
  iterate 2 (refine wpO_take ?_ rfl (by kernel_rfl) ?_ ?_; rotate_left; (· intro w' hS; go_simp; try with_reducible rfl); try simp only [Act.put, List.setIfInBounds_toArray, List.set_cons_zero, List.set_cons_succ])
  (refine wpO_take ?_ rfl (by kernel_rfl) ?_ ?_; rotate_left; (· intro w' hS; have d1 := hS.cell C2.out HCB.out; go_simp; try with_reducible rfl); try simp only [Act.put, List.setIfInBounds_toArray, List.set_cons_zero, List.set_cons_succ])
  iterate 3 (refine wpO_take ?_ rfl (by kernel_rfl) ?_ ?_; rotate_left; (· intro w' hS; go_simp; try with_reducible rfl); try simp only [Act.put, List.setIfInBounds_toArray, List.set_cons_zero, List.set_cons_succ])
  (refine wpO_take ?_ rfl (by kernel_rfl) ?_ ?_; rotate_left; (· intro w' hS; have d1 := hS.cell Q7.out HQB.out; go_simp; try with_reducible rfl); try simp only [Act.put, List.setIfInBounds_toArray, List.set_cons_zero, List.set_cons_succ])
  have HCLO := hid (tclone_any b.l (by have := HCC.out.2; omega) D w2.drew _ (HNb.out.frame (HMw2.out.f.trans' (Fr.refl _ _).drew) fun _ _ => id))
  refine wpO_run rfl (by kernel_rfl) (fun K hK => ?_); go_simp
  refine HCLO.out.mono ?_
  rintro e w3 ⟨v3, rfl, hf3, hown3⟩
  have hf3' : Fr (fun _ => False) w2 w3 := (Fr.refl (fun _ => False) w2).drew.trans' hf3
  refine hK _ _ (fun _ => hf3'.mono fun _ _ h => h.elim) ?_
  clear hK K
  try simp only [Act.put, List.setIfInBounds_toArray, List.set_cons_zero, List.set_cons_succ]
  obtain ⟨xs3, ho3c, -⟩ := hown3
  obtain ⟨a3, c3, rfl, -⟩ := own_len ho3c
  have hfa := hf3'.alloc (.cells #[.slice a3 b.l.length c3] 22)
  have hcn2 := cells_newQ w3 #[.slice a3 b.l.length c3] 22 (0, 0)
  have hba : W.heap.size ≤ (w3.alloc (.cells #[.slice a3 b.l.length c3] 22)).heap.size := by have h1 := hfa.size; have h2 := HMw2.out.f.size; omega
  have hnbl : m.nb + 1 ≤ 1099511627776 := by have := HL.out; omega
  clear hf3 ho3c HCLO
  refine wpO_run rfl (by kernel_rfl) (fun K hK => ?_); go_simp
  refine hK _ _ (fun _ => hfa.mono fun _ _ h => h.elim) ?_
  clear hK K
  try simp only [Act.put, List.setIfInBounds_toArray, List.set_cons_zero, List.set_cons_succ]
  refine wpO_run rfl (by kernel_rfl) (fun K hK => ?_)
  refine wp_appendQ (.tmp 115) (.tmp 121) 65 rfl 22 (.slice none 0 0) 1 24 Tryz.underlying65 Tryz.info_nodes rfl (by decide) bv rfl W.heap.size m.nb zs (hfa.own HO3.out fun _ _ => not_false) w3.heap.size 1 [.slice a3 b.l.length c3] rfl rfl hcn2 (fun y hy => by rw [List.mem_singleton.1 hy]; rfl) hnbl (by decide) hba ?_
  intro g cap w4 ho4 hf4 hg4
  have hc4 := hf4.heap (hfa.heap HHC.out not_false) HCB.out
  have hx4 := hf4.heap (hfa.heap HHX.out not_false) HXB.out
  have hF4 : Fr (fun k => some k = bv.ownBlock) w2 w4 := (hfa.mono fun _ _ h => h.elim).trans' hf4
  refine hK _ _ (fun _ => hF4) ?_
  clear hK K
  try simp only [Act.put, List.setIfInBounds_toArray, List.set_cons_zero, List.set_cons_succ]
  have f4 : w4.frozen? ⟨C, 2, none⟩ = false := frozen_of_row _ _ _ _ _ hc4
  have c4 : w4.cell? ⟨C, 2, none⟩ = some bv := by rw [cell_of_row _ _ _ _ _ _ hc4]; rfl
  have HF4 := hid hF4; have HC4 := hid hc4; have HX4 := hid hx4; have HO4 := hid ho4
  clear hfa hcn2 hba hnbl hf4 ho4 hg4 hF4 hc4 hx4 hf3'
  iterate 2
   refine wpO_run rfl (by kernel_rfl) (fun K hK => ?_)
   go_simp
   refine hK _ _ (last_skip (by kernel_rfl)) ?_
   clear hK K
   try simp only [Act.put, List.setIfInBounds_toArray, List.set_cons_zero, List.set_cons_succ]
  refine wpO_run rfl (by kernel_rfl) (fun K hK => ?_)
  go_simp
  refine hK _ _ (last_skip (by kernel_rfl)) ?_
  clear hK K
  try simp only [Act.put, List.setIfInBounds_toArray, List.set_cons_zero, List.set_cons_succ]
  refine wpO_end ?_
  obtain ⟨bv2, hbv⟩ : ∃ v, v = Value.slice (some ⟨g, 0, none⟩) (m.nb + 1) cap := ⟨_, rfl⟩
  have HBV := hid hbv
  rw [← hbv] at HO4 ⊢
  clear hbv f4 c4
  have hc5 := setCell_row 2 bv2 HC4.out
  simp only [List.setIfInBounds_toArray, List.set_cons_zero, List.set_cons_succ] at hc5
  have hs5 : Fr (fun k => k = C) w4 (w4.setCell ⟨C, 2, none⟩ bv2) := Fr.setCell (S := fun k => k = C) (Fr.refl _ _) (p := ⟨C, 2, none⟩) (.inl rfl) _
  have hXC : ¬ X = C := fun e => by
   have h1 := HX4.out
   rw [e, HC4.out] at h1
   simp only [Option.some.injEq, Obj.cells.injEq] at h1
   exact absurd h1.2.1 (by decide)
  have hloC := HMw2.out.lo.2
  have hp1 := HF4.out.own HO1.out (own_ne HO1.out HO3.out (by decide))
  have hp2 := HF4.out.own HO2.out (own_ne HO2.out HO3.out (by decide))
  have HM5 := hid (show MW W w1 (w4.setCell ⟨C, 2, none⟩ bv2) X C sv ⟨m.L ++ c0, m.nb + 1, m.ln⟩ from
   ⟨(HMw2.out.f.trans (U := fun _ => False) HF4.out (fun _ _ h => h) (fun k hk e => by have := (HO3.out.lt _ e.symm).1; omega)).trans (U := fun _ => False) hs5 (fun _ _ h => h) (fun k hk e => by omega),
    (HMw2.out.kp.step HF4.out (node_ne_own HO3.out (by decide))).step hs5 (node_ne_cells HC4.out (by decide)),
    (HMw2.out.ik.step HF4.out (fun k cs fz h _ => int_ne_own HO3.out (by decide) k cs fz h) (fun k hk hn => hn.same (by rw [HC4.out, HHC.out]))).step hs5 (fun k cs fz h _ => int_ne_cells HC4.out (by decide) k cs fz h) (fun k hk hn => (NvB.of HC4.out).2 ((NvB.of hc5).1 hn)),
    HMw2.out.lo, hs5.heap HX4.out hXC, lv, nv, bv2, xs, _, hc5, hs5.own hp1 (own_ne_cells hp1 HC4.out (by decide)), HINS.out, hs5.own hp2 (own_ne_cells hp2 HC4.out (by decide)), hs5.own HO4.out (own_ne_cells HO4.out HC4.out (by decide))⟩)
  have x5 : (w4.setCell ⟨C, 2, none⟩ bv2).cell? ⟨X, 0, none⟩ = some (.pointer (some ⟨C, 0, none⟩)) := HM5.out.cells.1
  have c5 : (w4.setCell ⟨C, 2, none⟩ bv2).cell? ⟨C, 2, none⟩ = some bv2 := by rw [cell_of_row _ _ _ _ _ _ hc5]; rfl
  clear hc5 hs5 hXC hloC hp1 hp2
  go_upto_region 29 with fail
  generalize w4.setCell ⟨C, 2, none⟩ bv2 = w5 at *
  rw [HBV.out] at c5
  have hw7 : IntKind.i64.wrap (((m.nb + 1 : Nat) : Int) - 1) = (m.nb : Int) := by rw [IntWalk.i64_in _ (by have := HL.out; omega)]; omega
  have hw8 : IntKind.i64.wrap (m.nb : Int) = (m.nb : Int) := IntWalk.i64_in _ (by have := HL.out; omega)
  have HP := hid (put0 HM5.out 45 (m.nb : Int) 0 ⟨#[]⟩ (by rw [HN2.out]; have := HL.out; have := HLE.out; omega))
  go_wp2_with fail
  refine HP.out.mono ?_
  rintro e w6 ⟨rfl, hw⟩
  have HWF := hid hw
  clear hw HP x5 c5 hw7 hw8
  go_wp2_with fail
  go_end0
  refine ⟨rfl, c0 ++ [⟨45, (m.nb : Int), 0, ⟨#[]⟩, m.ln⟩], m.nb + 1, ⟨by omega, by have := HLE.out; omega⟩, ?_, (HM0.out.since HWF.out).cast (by simp)⟩
  rw [show lenR x 7 - 1 = lenR a 0 + 1 by have := HLE.out; omega]
  exact (HCc0.out.mono (QL := fun z => z = m.ln ∨ LnOf x.l z) (nb' := m.nb + 1) (fun z hz => .inl hz) (by omega)).fork (by omega) (.inl rfl)
 ·have HOP := hid hop
  have y0' : w1.cell? ⟨B3, 0, none⟩ = some (.int .i64 49) := by rw [← hop]; exact y0
  clear y0 hop
  obtain ⟨b, r, hxl, hrb, hrx, hle⟩ := HRT.out.tryr HOP.out
  have hr0 : r ≠ [] := by
   have h2 := HRT.out.own.2
   rw [HOP.out, hxl] at h2
   rintro rfl
   simp [pCounts] at h2
  have HIF := hid (show lenR x 7 - 1 = 4 + sumR 7 b.l + sumR 8 r by have := hrb.block6.2; omega)
  have HXL := hid hxl
  have HCI := hid (try_of N HIB.out b r hr0 (by rw [← hxl]; have := HB.out; omega) (by rw [← hxl]; have := HB.out; omega) hrb hrx D _ (by rw [← hxl]; exact HNL.out) HM1.out (by have := HL.out; have := HIF.out; omega) (by have := HL.out; have := HIF.out; omega))
  clear hxl hrb hrx hle hr0
  go_wp2_with fail
  refine HCI.out.mono ?_
  rintro e w3 ⟨rfl, c, nb, hnb, hc, hw⟩
  have HWF := hid hw; have HCF := hid (And.intro hnb hc)
  clear hw hnb hc HCI
  clear y0' y1 y2 y3 y4 y5 y6 y7
  go_wp2_with fail
  go_end0
  refine ⟨rfl, c, nb, (by rw [HIF.out]; exact HCF.out.1), ?_, (HM0.out.since HWF.out).cast (by simp)⟩
  rw [HIF.out, HXL.out]; exact HCF.out.2
 ·have HOP := hid hop
  have y0' : w1.cell? ⟨B3, 0, none⟩ = some (.int .i64 51) := by rw [← hop]; exact y0
  clear y0 hop
  obtain ⟨a, b, hxl, hra, hrb, hle⟩ := HRT.out.fin HOP.out
  have HXL := hid hxl; have HLE := hid hle
  obtain ⟨b0, o0, ava, avc, al, alc, e0, -, hva, a0, a1, a2, a3, a4, a5, a6, a7⟩ := HNL.out.at (k := 0) (y := a) (by rw [HXL.out]; rfl)
  subst e0
  obtain ⟨b1, o1, bva, bvc, bl, blc, e1, -, hvb, b0, b1, b2, b3, b4, b5, b6, b7⟩ := HNL.out.at (k := 1) (y := b) (by rw [HXL.out]; rfl)
  simp only [Option.some.injEq, Addr.mk.injEq] at e1
  obtain ⟨rfl, rfl, -⟩ := e1
  simp only [Nat.zero_mul, Nat.add_zero, Nat.one_mul, Nat.reduceMul] at a0 a1 a2 a3 a4 a5 a6 a7 b0 b1 b2 b3 b4 b5 b6 b7
  have HCa := hid (And.intro (And.intro a0 a1) (And.intro (And.intro a2 a3) (And.intro (And.intro a4 a5) (And.intro a6 a7)))); have HVa := hid hva; have HRa := hid hra
  have HCb := hid (And.intro (And.intro b0 b1) (And.intro (And.intro b2 b3) (And.intro (And.intro b4 b5) (And.intro b6 b7)))); have HVb := hid hvb; have HRb := hid hrb
  obtain ⟨aw, av9, ae, -, hna⟩ := hva.open
  obtain rfl : av9 = .slice al a.l.length alc := by simp at ae; exact ae.2.symm
  have HNa := hid hna
  have HSa := hid hra.block6
  have hca := Nd.cnt_eq a; have hza := Nd.sz_eq a
  clear ae hna
  obtain ⟨bw, bv9, be, -, hnb⟩ := hvb.open
  obtain rfl : bv9 = .slice bl b.l.length blc := by simp at be; exact be.2.symm
  have HNb := hid hnb
  have HSb := hid hrb.block6
  have hcb := Nd.cnt_eq b; have hzb := Nd.sz_eq b
  clear be hnb
  have hcc : (a.cnt < N ∧ a.sz ≤ 1048576 ∧ cntL a.l < N ∧ szL a.l ≤ 1048576) ∧ (b.cnt < N ∧ b.sz ≤ 1048576 ∧ cntL b.l < N ∧ szL b.l ≤ 1048576) := by
   have h := HB.out
   rw [HXL.out] at h
   simp only [cntL, szL] at h
   omega
  have HCC := hid hcc
  have hln : x.l.length = 2 := by rw [HXL.out]; rfl
  rw [hln] at y7
  rw [hln]
  have HLX := hid (show ∀ y ∈ [a, b], ∀ z, LnOf y.l z → LnOf x.l z from fun y hy z hz => hz.mono fun q hq => by
   rw [HXL.out]
   obtain ⟨i, hi, e⟩ := List.getElem_of_mem hy
   exact (walkL_at (k := i) (by rw [List.getElem?_eq_getElem hi, e])).2 q hq)
  clear hcc hln hxl hle a0 a1 a2 a3 a4 a5 a6 a7 b0 b1 b2 b3 b4 b5 b6 b7 hva hra hvb hrb hca hza hcb hzb
  have HP := hid (put0 HM1.out 25 0 0 ⟨#[]⟩ (by have := HL.out; have := HLE.out; omega))
  go_wp2_with fail
  refine HP.out.mono ?_
  rintro e w2 ⟨rfl, hw⟩
  have HMw2 := hid hw
  clear hw HP y0' y1 y2 y3 y4 y5 y6 y7
  have hq : (m.L ++ [(J.mk 25 (0) (0) ⟨#[]⟩ m.ln)] : List J).length = m.L.length + 1 := by rw [List.length_append]; rfl
  have HN2 := hid hq
  clear hq
  obtain ⟨⟨q0, q1⟩, ⟨q2, q3⟩, ⟨q4, q5⟩, q6, q7⟩ := HCa.out
  replace q7 := HMw2.out.f.cell q7 not_false
  clear q0 q1 q2 q3 q4 q5 q6
  have HBE := hid (HIB.out a.l (by have := HCC.out.1; omega) (by have := HCC.out.1; omega) HSa.out.1 D W w1 _ _ X C sv _ HNa.out HMw2.out (by (try dsimp only); rw [HN2.out]; have := HL.out; have := HLE.out; have := HSa.out.2; have := HSb.out.2; omega) (by (try dsimp only); have := HL.out; have := HLE.out; have := HSa.out.2; have := HSb.out.2; omega))
  go_wp2_with fail
  refine HBE.out.mono ?_
  rintro e w3 ⟨rfl, c0, nbc0, hnb, hc, hw⟩
  try dsimp only at hnb hc hw
  rw [HN2.out] at hc
  have HCc0 := hid (And.intro hnb hc); have HMw3 := hid hw
  clear hnb hc hw HBE q7 
  have hq : (m.L ++ [(J.mk 25 (0) (0) ⟨#[]⟩ m.ln)] ++ c0 : List J).length = m.L.length + 1 + sumR 7 a.l := by rw [List.length_append, HN2.out, HCc0.out.2.1]
  have HN3 := hid hq
  clear hq
  have HP := hid (put0 HMw3.out 26 0 0 ⟨#[]⟩ (by rw [HN3.out]; have := HL.out; have := HLE.out; have := HSa.out.2; omega))
  go_wp2_with fail
  refine HP.out.mono ?_
  rintro e w4 ⟨rfl, hw⟩
  have hq : (m.L ++ [(J.mk 25 (0) (0) ⟨#[]⟩ m.ln)] ++ c0 ++ [(J.mk 26 (0) (0) ⟨#[]⟩ m.ln)] : List J).length = m.L.length + (sumR 7 a.l + 2) := by rw [List.length_append, HN3.out]; simp only [List.length_cons, List.length_nil]; omega
  have HN4 := hid hq
  clear hq
  have HP := hid (put0 hw 32 0 0 ⟨#[]⟩ (by rw [HN4.out]; have := HL.out; have := HLE.out; have := HSa.out.2; omega))
  clear hw
  go_wp2_with fail
  refine HP.out.mono ?_
  rintro e w5 ⟨rfl, hw⟩
  have hq : (m.L ++ [(J.mk 25 (0) (0) ⟨#[]⟩ m.ln)] ++ c0 ++ [(J.mk 26 (0) (0) ⟨#[]⟩ m.ln)] ++ [(J.mk 32 (0) (0) ⟨#[]⟩ m.ln)] : List J).length = m.L.length + (sumR 7 a.l + 3) := by rw [List.length_append, HN4.out]; simp only [List.length_cons, List.length_nil]; omega
  have HN5 := hid hq
  clear hq
  have HHE := hid (here_mid hw (A := m.L) (j := (J.mk 25 (0) (0) ⟨#[]⟩ m.ln)) (B := c0 ++ (J.mk 26 (0) (0) ⟨#[]⟩ m.ln) :: [(J.mk 32 (0) (0) ⟨#[]⟩ m.ln)]) (by simp) (k := m.L.length) rfl (by rw [HN5.out]; have := HL.out; have := HLE.out; have := HSa.out.2; omega))
  clear hw HP
  go_wp2_with fail
  refine HHE.out.mono ?_
  rintro e w6 ⟨rfl, hw⟩
  rw [HN5.out] at hw
  have hw2 := hw.cast (L' := m.L ++ [(J.mk 25 ((m.L.length + (sumR 7 a.l + 3) : Nat) : Int) 0 ⟨#[]⟩ m.ln)] ++ c0 ++ [(J.mk 26 (0) (0) ⟨#[]⟩ m.ln)] ++ [(J.mk 32 (0) (0) ⟨#[]⟩ m.ln)]) (by simp)
  have HMw6 := hid hw2
  clear hw hw2 HHE
  have hq : (m.L ++ [(J.mk 25 ((m.L.length + (sumR 7 a.l + 3) : Nat) : Int) 0 ⟨#[]⟩ m.ln)] ++ c0 ++ [(J.mk 26 (0) (0) ⟨#[]⟩ m.ln)] ++ [(J.mk 32 (0) (0) ⟨#[]⟩ m.ln)] : List J).length = m.L.length + (sumR 7 a.l + 3) := by rw [← HN5.out]; simp
  have HN6 := hid hq
  clear hq
  obtain ⟨⟨q0, q1⟩, ⟨q2, q3⟩, ⟨q4, q5⟩, q6, q7⟩ := HCb.out
  replace q7 := HMw6.out.f.cell q7 not_false
  clear q0 q1 q2 q3 q4 q5 q6
  have HBE := hid (HIB.out b.l (by have := HCC.out.2; omega) (by have := HCC.out.2; omega) HSb.out.1 D W w1 _ _ X C sv _ HNb.out HMw6.out (by (try dsimp only); rw [HN6.out]; have := HL.out; have := HLE.out; have := HSa.out.2; have := HSb.out.2; omega) (by (try dsimp only); have := HL.out; have := HLE.out; have := HSa.out.2; have := HSb.out.2; have := HCc0.out.1.2; omega))
  go_wp2_with fail
  refine HBE.out.mono ?_
  rintro e w7 ⟨rfl, c1, nbc1, hnb, hc, hw⟩
  try dsimp only at hnb hc hw
  rw [HN6.out] at hc
  have HCc1 := hid (And.intro hnb hc); have HMw7 := hid hw
  clear hnb hc hw HBE q7 
  have hq : (m.L ++ [(J.mk 25 ((m.L.length + (sumR 7 a.l + 3) : Nat) : Int) 0 ⟨#[]⟩ m.ln)] ++ c0 ++ [(J.mk 26 (0) (0) ⟨#[]⟩ m.ln)] ++ [(J.mk 32 (0) (0) ⟨#[]⟩ m.ln)] ++ c1 : List J).length = m.L.length + (sumR 7 a.l + 3) + sumR 7 b.l := by rw [List.length_append, HN6.out, HCc1.out.2.1]
  have HN7 := hid hq
  clear hq
  have HP := hid (put0 HMw7.out 33 0 0 ⟨#[]⟩ (by rw [HN7.out]; have := HL.out; have := HLE.out; have := HSa.out.2; have := HSb.out.2; omega))
  go_wp2_with fail
  refine HP.out.mono ?_
  rintro e w8 ⟨rfl, hw⟩
  have HWF := hid hw
  clear hw HP
  go_wp2_with fail
  go_end0
  refine ⟨rfl, [(J.mk 25 ((m.L.length + (sumR 7 a.l + 3) : Nat) : Int) 0 ⟨#[]⟩ m.ln)] ++ c0 ++ [(J.mk 26 (0) (0) ⟨#[]⟩ m.ln)] ++ [(J.mk 32 (0) (0) ⟨#[]⟩ m.ln)] ++ c1 ++ [(J.mk 33 (0) (0) ⟨#[]⟩ m.ln)], nbc1, ⟨by have := HCc0.out.1.1; have := HCc1.out.1.1; omega, by have := HCc0.out.1.2; have := HCc1.out.1.2; have := HLE.out; have := HSa.out.2; have := HSb.out.2; omega⟩, ?_, (HM0.out.since HWF.out).cast (by simp)⟩
  rw [show lenR x 7 - 1 = sumR 7 a.l + 3 + sumR 7 b.l + 1 by have := HLE.out; have := HSa.out.2; have := HSb.out.2; omega]
  have h1 := HCc0.out.2.mono (QL := fun z => z = m.ln ∨ LnOf x.l z) (fun z hz => .inr (HLX.out a (by simp) z hz)) HCc1.out.1.1
  have h2 := HCc1.out.2.mono (QL := fun z => z = m.ln ∨ LnOf x.l z) (fun z hz => .inr (HLX.out b (by simp) z hz)) (Nat.le_refl _)
  exact FC.finally h1 h2 (by omega) (.inl rfl) (.inl rfl) (.inl rfl) (.inl rfl)
end
section
theorem Ty.places {nb : Nat} {L : List J} {q : Int × Int} (h : Ty nb 0 L (0, 0) q []) : ∃ T : Nat → Int × Int, T 0 = (0, 0) ∧ T L.length = q ∧ (∀ k, k ≤ L.length → (0 ≤ (T k).1 ∧ (T k).1 ≤ k) ∧ 0 ≤ (T k).2 ∧ (T k).2 ≤ k) ∧
  ∀ k j, L[k]? = some j → okJ nb (fun t r => ∃ m : Nat, t = (m : Int) ∧ m ≤ L.length ∧ T m = r) k j (T k) := by
 obtain ⟨T, h1, h2, h3, h4⟩ := h
 refine ⟨T, h1, h2, fun k hk => by have := h3 k hk; simp at this; omega, fun k j hj => ?_⟩
 have := h4 k j hj
 rw [Nat.zero_add] at this
 refine this.mono (Nat.le_refl _) fun t r h => ?_
 rcases h with ⟨m, e, hm, ht⟩ | h
 ·rw [Nat.zero_add] at e
  exact ⟨m, e, hm, ht⟩
 ·cases h
def Typed (nb : Nat) (L : List J) (T : Nat → Int × Int) : Prop := 0 < L.length ∧ T 0 = (0, 0) ∧ (∀ i, i < L.length → (0 ≤ (T i).1 ∧ (T i).1 ≤ i) ∧ 0 ≤ (T i).2 ∧ (T i).2 ≤ i) ∧
 ∀ i j, L[i]? = some j → okJ nb (fun t r => ∃ m : Nat, t = (m : Int) ∧ m < L.length ∧ T m = r) i j (T i)
theorem FC.closed {PL : Int → Prop} {nb k : Nat} {c : List J} {b1 b2 a1 a2 l1 l2 : Int} {z1 z2 : ByteArray} (h : FC PL nb 0 k c 0) :
  ∃ T, Typed nb (c ++ [⟨1, a1, b1, z1, l1⟩] ++ [⟨44, a2, b2, z2, l2⟩]) T := by
 have h1 : FC (fun _ => True) nb 0 (k + 1) (c ++ [⟨1, a1, b1, z1, l1⟩]) 1 := (h.mono (fun _ _ => trivial) (Nat.le_refl _)).put 0 1 (fun m => by simp [goesJ]) (by simp) (fun e => by simp at e) (by simp [ndT]) (by simp [ndG]) (by simp [ndTB, ndGB]) (by omega) (by omega) trivial (by omega)
 obtain ⟨T, e0, eq, e1, e2⟩ := (h1.2.2.2 0 0 [] (by omega) (by omega)).places
 have hl : (c ++ [(⟨1, a1, b1, z1, l1⟩ : J)]).length = k + 1 := h1.1
 have hl2 : (c ++ [(⟨1, a1, b1, z1, l1⟩ : J)] ++ [(⟨44, a2, b2, z2, l2⟩ : J)]).length = k + 2 := by rw [List.length_append, hl]; rfl
 refine ⟨T, by rw [hl2]; omega, e0, fun i hi => e1 i (by rw [hl2] at hi; omega), fun i j hj => ?_⟩
 rw [hl2]
 by_cases hi : i < k + 1
 ·rw [List.getElem?_append_left (by rw [hl]; exact hi)] at hj
  refine (e2 i j hj).mono (Nat.le_refl _) fun t r ⟨m, e, hm, ht⟩ => ⟨m, e, by rw [hl] at hm; omega, ht⟩
 ·have hil := (List.getElem?_eq_some_iff.1 hj).1
  rw [hl2] at hil
  obtain rfl : i = k + 1 := by omega
  rw [List.getElem?_append_right (by rw [hl]; omega), hl, Nat.sub_self] at hj
  simp at hj
  subst hj
  rw [hl] at eq
  rw [eq]
  refine ⟨by simp [ndT], by simp [ndTB], fun e => by simp at e, ?_⟩
  simp [goesJ]
end
section
open Go.RowKit
theorem stmt_block : ∀ N, StmtTo N ∧ BlockTo N
 | 0 => ⟨fun x hx => absurd hx (Nat.not_lt_zero _), fun l hl => absurd hl (Nat.not_lt_zero _)⟩
 | N + 1 => ⟨stmt_of N (stmt_block N).2, block_of (N + 1) (stmt_of N (stmt_block N).2)⟩
def MadeCode (base : Nat) (w : World) (l : List Nd) (C : Nat) : Prop :=
 ∃ (sv : Value) (L : List J) (nb : Nat) (T : Nat → Int × Int), CodeAt base w C sv L nb ∧ Typed nb L T ∧ L.length = sumR 7 l + 2 ∧ nb ≤ sumR 7 l ∧ (∀ j ∈ L, j.ln = 0 ∨ LnOf l j.ln) ∧ NL (fun _ => True) w l sv
theorem CodeAt.down {b b' nb : Nat} {w : World} {C : Nat} {sv : Value} {L : List J} (h : CodeAt b w C sv L nb) (hb : b' ≤ b) : CodeAt b' w C sv L nb := by
 obtain ⟨lv, nv, bv, xs, zs, h1, h2, h3, h4, h5⟩ := h
 exact ⟨lv, nv, bv, xs, zs, h1, own_base' h2 hb, h3, own_base' h4 hb, own_base' h5 hb⟩
theorem heap_two (w : World) (a b : Obj) : ((w.alloc a).alloc b).heap[w.heap.size + 1]? = some b := by
 have h := heap_alloc_new (w.alloc a) b
 have hs : (w.alloc a).heap.size = w.heap.size + 1 := by simp
 rw [hs] at h
 exact h
theorem mw_begin {W : World} {sv : Value} :
  let w1 := (W.alloc (.cells #[.slice none 0 0, .slice none 0 0, .slice none 0 0, sv] 67)).alloc (.cells #[.pointer (some ⟨W.heap.size, 0, none⟩), .int .i64 0] 88)
  MW W w1 w1 (W.heap.size + 1) W.heap.size sv ⟨[], 0, 0⟩ := by
 intro w1
 have hC : w1.heap[W.heap.size]? = some (.cells #[.slice none 0 0, .slice none 0 0, .slice none 0 0, sv] 67 (0, 0)) := ((Fr.refl (fun _ => False) _).alloc _).heap (heap_alloc_new W _) not_false
 have hX : w1.heap[W.heap.size + 1]? = some (.cells #[.pointer (some ⟨W.heap.size, 0, none⟩), .int .i64 0] 88 (0, 0)) := heap_two W _ _
 exact ⟨((Fr.refl _ _).alloc _).alloc _, NKept.refl _, IKept.refl _ _, ⟨Nat.le_succ _, Nat.le_refl _⟩, hX, _, _, _, [], [], hC, World.ownsRow_nil _ _ _ _, InsOk.nil, World.ownsRow_nil _ _ _ _, World.ownsRow_nil _ _ _ _⟩
theorem MW.src {W V w : World} {X C : Nat} {sv : Value} {m : MS} (h : MW W V w X C sv m) : w.cell? ⟨C, 3, none⟩ = some sv := by
 obtain ⟨lv, nv, bv, xs, zs, hc, -⟩ := h.hC
 rw [cell_of_row _ _ _ _ _ _ hc]; rfl
set_option maxRecDepth 100000 in
set_option maxHeartbeats 6400000 in
theorem make_any (l : List Nd) (hM : szL l ≤ 1048576) (hrt : ∀ y ∈ l, Rt 7 y) (hs : sumR 7 l ≤ 1073741800) (D : Nat → Prop) (w : World) (v : Value) (hv : NL D w l v) :
  Calls Tryz.prog 28 #[v] w fun e w' => ∃ C, e = .returned (.pointer (some ⟨C, 0, none⟩)) ∧ w.heap.size ≤ C ∧ Fr (fun _ => False) w w' ∧ MadeCode w.heap.size w' l C := by
 have HCL := hid (tclone_any l (by omega) D w v hv)
 have HB := hid ((stmt_block (cntL l + 1)).2 l (by omega) hM hrt)
 have HS := hid hs
 obtain ⟨a, cap, us, rfl, -⟩ := id hv
 clear hM hrt hv hs
 go_enter Tryz.func28, Tryz.ntmps28
 go_wp2_with fail
 refine HCL.out.mono ?_
 rintro e W ⟨v', rfl, hf, hco⟩
 have hNL : NL (fun _ => True) W l v' := hco.own.close.mono fun _ _ _ => trivial
 obtain ⟨a2, c2, us2, rfl, -⟩ := id hNL
 have HNL := hid hNL; have HF := hid hf
 have HMW := hid (mw_begin (W := W) (sv := .slice a2 l.length c2))
 clear hNL hco hf HCL
 go_upto_region 2 with fail
 generalize (W.alloc (.cells #[.slice none 0 0, .slice none 0 0, .slice none 0 0, .slice a2 l.length c2] 67)).alloc (.cells #[.pointer (some ⟨W.heap.size, 0, none⟩), .int .i64 0] 88) = w1 at *
 have hsX : W.heap.size ≤ W.heap.size := Nat.le_refl _
 generalize hC0 : W.heap.size = C at *
 have HC0 := hid hC0
 clear hC0 hsX
 have hmw := HMW.out
 have x0 := hmw.cells.1
 have x3 := hmw.src
 have HBL := hid (HB.out (fun _ => True) W w1 w1 _ _ _ _ _ HNL.out hmw (by have := HS.out; simp; omega) (by have := HS.out; simp; omega))
 clear hmw HMW HB
 go_wp2_with fail
 refine HBL.out.mono ?_
 rintro e w2 ⟨rfl, c, nb, hnb, hc, hw⟩
 simp only [List.nil_append, List.length_nil] at hc hw
 have HC := hid (And.intro hnb hc)
 have x0 := hw.cells.1
 have x1 := hw.cells.2
 obtain ⟨hln, hfz⟩ := hw.setLn 0
 have HLN := hid hln
 clear hw hnb hc HBL hln x3
 try dsimp only at x1
 go_upto_region 4 with fail
 generalize w2.setCell ⟨C + 1, 1, none⟩ (.int .i64 0) = w3 at *
 clear x0 x1 hfz
 have HI := hid (mI_any 0 w3)
 go_wp2_with fail
 refine HI.out.mono ?_
 rintro e w4 ⟨rfl, hf4⟩
 have hw := HLN.out.fr hf4
 try dsimp only at hw
 have HP := hid (put0 hw 1 0 0 ⟨#[]⟩ (by have := HC.out.2.1; have := HS.out; omega))
 clear hw HLN HI hf4
 go_wp2_with fail
 refine HP.out.mono ?_
 rintro e w5 ⟨rfl, hw⟩
 have HQ := hid (show (c ++ [(J.mk 1 0 0 ⟨#[]⟩ 0)] : List J).length = sumR 7 l + 1 by rw [List.length_append, HC.out.2.1]; rfl)
 have HP2 := hid (put0 hw 44 0 0 ⟨#[]⟩ (by rw [HQ.out]; have := HS.out; omega))
 clear hw HP
 go_wp2_with fail
 refine HP2.out.mono ?_
 rintro e w6 ⟨rfl, hw⟩
 have HW6 := hid hw
 have x0 := hw.cells.1
 clear hw HP2
 go_wp2_with fail
 go_ret
 have hw := HW6.out
 have hc := HC.out
 have hWs := HF.out.size
 rw [HC0.out] at hWs
 obtain ⟨T, hT⟩ := hc.2.closed (a1 := 0) (b1 := 0) (z1 := ⟨#[]⟩) (l1 := 0) (a2 := 0) (b2 := 0) (z2 := ⟨#[]⟩) (l2 := 0)
 refine ⟨C, rfl, hWs, HF.out.trans' hw.f, .slice a2 l.length c2, _, nb, T, ?_, hT, ?_, ?_, ?_, ?_⟩
 ·exact hw.hC.down (by rw [HC0.out]; exact hWs)
 ·rw [List.length_append, HQ.out]; rfl
 ·have := hc.1; simp at this; omega
 ·intro j hj
  simp only [List.mem_append, List.mem_singleton] at hj
  rcases hj with (hj | rfl) | rfl
  ·exact .inr (hc.2.2.1 j hj)
  ·exact .inl rfl
  ·exact .inl rfl
 ·exact HNL.out.frame hw.f fun _ _ => not_false
end
section
open Go.RowKit
def plV (T : Nat → Int × Int) : Nat → List Bool → List Value
 | _, [] => []
 | i, k :: r => .bool k :: .int .i64 (if k then (T i).1 else 0) :: .int .i64 (if k then (T i).2 else 0) :: plV T (i + 1) r
theorem plV_len (T : Nat → Int × Int) : ∀ (ks : List Bool) (i : Nat), (plV T i ks).length = ks.length * 3
 | [], i => rfl
 | k :: r, i => by simp only [plV, List.length_cons, plV_len T r (i + 1)]; omega
theorem plV_at (T : Nat → Int × Int) : ∀ (ks : List Bool) (i k : Nat) (b : Bool), ks[k]? = some b → (plV T i ks)[k * 3]? = some (.bool b) ∧ (plV T i ks)[k * 3 + 1]? = some (.int .i64 (if b then (T (i + k)).1 else 0)) ∧ (plV T i ks)[k * 3 + 2]? = some (.int .i64 (if b then (T (i + k)).2 else 0))
 | [], i, k, b, h => by simp at h
 | c :: r, i, 0, b, h => by
  simp at h
  subst h
  simp [plV]
 | c :: r, i, k + 1, b, h => by
  have := plV_at T r (i + 1) k b (by simpa using h)
  rw [show i + 1 + k = i + (k + 1) by omega] at this
  simpa [plV, show (k + 1) * 3 = k * 3 + 3 by omega] using this
theorem plV_set (T : Nat → Int × Int) : ∀ (ks : List Bool) (i k : Nat) (s b : Int), k < ks.length → T (i + k) = (s, b) → (((plV T i ks).set (k * 3) (.bool true)).set (k * 3 + 1) (.int .i64 s)).set (k * 3 + 2) (.int .i64 b) = plV T i (ks.set k true)
 | [], i, k, s, b, h, _ => by simp at h
 | c :: r, i, 0, s, b, h, e => by
  rw [Nat.add_zero] at e
  simp [plV, e]
 | c :: r, i, k + 1, s, b, h, e => by
  have := plV_set T r (i + 1) k s b (by simpa using h) (by rw [show i + 1 + k = i + (k + 1) by omega]; exact e)
  simp [plV, show (k + 1) * 3 = k * 3 + 3 by omega, ← this]
def unk : List Bool → Nat
 | [] => 0
 | b :: r => (if b then 0 else 1) + unk r
theorem unk_set : ∀ (ks : List Bool) (k : Nat), ks[k]? = some false → unk (ks.set k true) + 1 = unk ks
 | [], k, h => by simp at h
 | b :: r, 0, h => by simp at h; subst h; simp [unk]; omega
 | b :: r, k + 1, h => by
  have := unk_set r k (by simpa using h)
  simp only [List.set_cons_succ, unk]
  omega
theorem unk_rep : ∀ n, unk (List.replicate n false) = n
 | 0 => rfl
 | n + 1 => by simp only [List.replicate_succ, unk, unk_rep n]; simp; omega
structure CK where
 ks : List Bool
 td : List Nat
def CK.Ok (c : CK) (n : Nat) : Prop := c.ks.length = n ∧ (∀ t ∈ c.td, c.ks[t]? = some true) ∧ unk c.ks + c.td.length ≤ n
def CK.visit (c : CK) (m : Nat) : CK := if c.ks[m]? = some true then c else ⟨c.ks.set m true, c.td ++ [m]⟩
theorem CK.visit_ok {c : CK} {n m : Nat} (h : c.Ok n) (hm : m < n) : (c.visit m).Ok n ∧ unk (c.visit m).ks + (c.visit m).td.length = unk c.ks + c.td.length := by
 obtain ⟨h1, h2, h3⟩ := h
 unfold CK.visit
 split
 ·exact ⟨⟨h1, h2, h3⟩, rfl⟩
 ·rename_i hk
  have hml : m < c.ks.length := by omega
  have hf : c.ks[m]? = some false := by
   rw [List.getElem?_eq_getElem hml] at hk ⊢
   cases h : c.ks[m]
   ·rfl
   ·rw [h] at hk; exact absurd rfl hk
  have hu := unk_set c.ks m hf
  refine ⟨⟨by simpa using h1, fun t ht => ?_, by simp only [List.length_append, List.length_singleton]; omega⟩, by simp only [List.length_append, List.length_singleton]; omega⟩
  dsimp only at ht ⊢
  rcases List.mem_append.1 ht with ht | ht
  ·by_cases e : m = t
   ·subst e; rw [List.getElem?_set_self hml]
   ·rw [List.getElem?_set_ne e]; exact h2 t ht
  ·rw [List.mem_singleton.1 ht, List.getElem?_set_self hml]
end
end Go.Proofs.YtbegahbagnflnaaGreatDoor
