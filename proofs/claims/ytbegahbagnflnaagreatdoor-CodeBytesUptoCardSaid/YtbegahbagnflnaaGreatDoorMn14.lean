import Derived.Test.YtbegahbagnflnaaGreatDoorMn13
import Derived.Test.YtbegahbagnflnaaGreatDoorMn04
import Derived.Test.YtbegahbagnflnaaGreatDoorMn02
set_option linter.unusedSimpArgs false
set_option linter.unusedVariables false
set_option linter.unnecessarySimpa false
namespace Go.Proofs.YtbegahbagnflnaaGreatDoor
section
open Go.RowKit
variable {W V w w' : World} {X C : Nat} {sv : Value} {m : MS}
theorem NL.take {D : Nat → Prop} {w : World} {l : List Nd} {a : Option Addr} {n cap : Nat} (h : NL D w l (.slice a n cap)) (k : Nat) (hk : k ≤ l.length) : NL D w (l.take k) (.slice a k cap) := by
 obtain ⟨a2, cap2, us, e, h1, h2, h3, hb, hi⟩ := h
 simp only [Value.slice.injEq] at e
 obtain ⟨rfl, rfl, rfl⟩ := e
 have hl : (l.take k).length = k := by rw [List.length_take]; omega
 refine ⟨a, cap, us, by rw [hl], by rw [hl]; omega, h2, h3, fun i hi2 => hb i (by rw [hl] at hi2; omega), fun i x hx => hi i x ?_⟩
 have hil := (List.getElem?_eq_some_iff.1 hx).1
 rw [hl] at hil
 rwa [List.getElem?_take, if_pos hil] at hx
theorem NL.drop {D : Nat → Prop} {w : World} {l : List Nd} {b o n cap : Nat} (h : NL D w l (.slice (some ⟨b, o, none⟩) n cap)) (k : Nat) (hk : k ≤ l.length) : NL D w (l.drop k) (.slice (some ⟨b, o + k * 8, none⟩) (n - k) (cap - k)) := by
 obtain ⟨a2, cap2, us, e, h1, h2, h3, hb, hi⟩ := h
 simp only [Value.slice.injEq] at e
 obtain ⟨rfl, rfl, rfl⟩ := e
 refine ⟨_, cap - k, fun i => us (k + i), by rw [List.length_drop], by rw [List.length_drop]; omega, by omega, fun h => (by cases h), fun i hi2 => ?_, fun i x hx => hi (k + i) x (by rwa [List.getElem?_drop] at hx)⟩
 rw [List.length_drop] at hi2
 obtain ⟨b', o', e, hD, h8, hc⟩ := hb (k + i) (by omega)
 simp only [Option.some.injEq, Addr.mk.injEq] at e
 obtain ⟨rfl, rfl, -⟩ := e
 refine ⟨b, o + k * 8, rfl, hD, h8, fun j hj => ?_⟩
 rw [← hc j hj]
 congr 2
 omega
theorem FC.one' {PL : Int → Prop} {nb n : Nat} {j : J} (hg : ∀ k : Nat, goesJ j k = [(k : Int) + 1]) (h8 : j.op ≠ 8 ∧ j.op ≠ 9) (h45 : j.op ≠ 45) (ht : ndT j.op j.a (decide (j.s = ⟨#[]⟩)) = 0) (hG : ndG j.op = 1) (hB : ndTB j.op = 0 ∧ ndGB j.op = 0) (hl : PL j.ln) : FC PL nb n 1 [j] 1 :=
 (FC.nil (PL := PL) (nb := nb) (n := n)).put (j := j) 0 1 hg h8 (fun e => absurd e h45) ht hG hB (by omega) (by omega) hl (d' := 1) (by omega)
set_option maxRecDepth 100000 in
set_option maxHeartbeats 25600000 in
theorem expr_of (N : Nat) (ih : ExprTo N) : ExprTo (N + 1) := by
 intro x hx hsz hrt D W V w u X C sv m hv hm hL
 obtain ⟨va9, v9, rfl, hvl, hnl⟩ := hv.open
 obtain ⟨xa, xc, xu, rfl, -⟩ := id hvl
 obtain ⟨la, lc, us, rfl, hlc, -⟩ := id hnl
 have hcx := Nd.cnt_eq x; have hzx := Nd.sz_eq x
 have hll := len_le_cnt x.l; have hcz := cntL_szL x.l
 have hB : cntL x.l < N ∧ szL x.l ≤ 1048576 ∧ x.l.length ≤ 1048576 ∧ x.v.size ≤ 1048576 := by omega
 have HB := hid hB
 have hop := hrt.own.1
 have hop2 : x.op = 1 ∨ x.op = 2 ∨ (x.op = 3 ∨ x.op = 4) ∨ (x.op = 17 ∨ x.op = 18) ∨ x.op = 19 ∨ x.op = 20 ∨ x.op = 21 ∨ x.op = 22 ∨ x.op = 23 ∨ x.op = 24 ∨ x.op = 25 ∨ x.op = 27 ∨ x.op = 28 ∨ x.op = 29 ∨ (5 ≤ x.op ∧ x.op ≤ 16) := by
  simp [pStands, isExpr] at hop
  omega
 have hF := (Fr.refl (fun _ => False) w).alloc (.cells #[.int .i64 x.op, .int .i64 x.ln, .string x.s, .int .i64 x.v.k, .int .i64 x.v.n, .string x.v.s, .slice xa x.v.l.length xc, .slice la x.l.length lc] 75)
 have HG := hid (heap_alloc_new w (.cells #[.int .i64 x.op, .int .i64 x.ln, .string x.s, .int .i64 x.v.k, .int .i64 x.v.n, .string x.v.s, .slice xa x.v.l.length xc, .slice la x.l.length lc] 75))
 have HM0 := hid (hm.fr hF)
 have HVL := hid (hvl.frame (hm.f.trans' hF) fun _ _ => id); have HNL := hid hnl; have HRT := hid hrt; have HL := hid hL; have HIH := hid ih
 clear hv hvl hnl hrt hm hL hF hx hsz hcx hzx hll hcz hB hop ih
 go_enter Tryz.func113, Tryz.ntmps113
 go_upto_region 1 with fail
 generalize w.alloc (.cells #[.int .i64 x.op, .int .i64 x.ln, .string x.s, .int .i64 x.v.k, .int .i64 x.v.n, .string x.v.s, .slice xa x.v.l.length xc, .slice la x.l.length lc] 75) = w1 at *
 generalize w.heap.size = B3 at *
 have HM1 := hid HM0.out.now
 obtain ⟨y0, y1, y2, y3, y4, y5, y6, y7⟩ := node_cells HG.out
 have HK0 := hid (fun (w5 : World) (h : NKept w1 w5) => node_cells (h _ _ _ HG.out))
 have HOP0 := hid (rfl : x.op = x.op)
 rcases hop2 with hop | hop | hop | hop | hop | hop | hop | hop | hop | hop | hop | hop | hop | hop | hop
 ·have HOP := hid hop
  have y0' : w1.cell? ⟨B3, 0, none⟩ = some (.int .i64 1) := by rw [← hop]; exact y0
  clear y0 hop
  have hle := HRT.out.leaf (.inl HOP.out)
  have HLE := hid hle
  have hvi0 : VIn D w1 x.v #[.int .i64 x.v.k, .int .i64 x.v.n, .string x.v.s, .slice xa x.v.l.length xc] := by
   have h := HVL.out.close x.v.k x.v.n x.v.s
   revert h
   generalize x.v = vv
   cases vv
   exact id
  have HCL := hid (vclone_any x.v.size x.v (Nat.le_refl _) (by have := HB.out; omega) D w1 _ hvi0)
  clear hvi0
  clear hle
  go_wp2_with fail
  refine HCL.out.mono ?_
  rintro e w2 ⟨u', rfl, hf2, hvi, -⟩
  obtain ⟨vc, hu, hvlc⟩ := hvi.open
  subst hu
  obtain ⟨vca, vcc, vcu, rfl, -⟩ := hvlc
  have HM2 := hid (HM1.out.fr hf2)
  have HP := hid (put_any HM2.out 1 0 0 ⟨#[]⟩ (.int .i64 x.v.k) (.int .i64 x.v.n) (.string x.v.s) (.slice vca x.v.l.length vcc) ⟨rfl, rfl, rfl, rfl⟩ (by have := HL.out; omega))
  clear hf2 hvi
  clear y0' y1 y2 y3 y4 y5 y6 y7
  go_wp2_with fail
  refine HP.out.mono ?_
  rintro e w3 ⟨rfl, hw⟩
  have HWF := hid hw
  clear hw HP
  go_wp2_with fail
  go_end0
  refine ⟨rfl, [⟨1, 0, 0, ⟨#[]⟩, m.ln⟩], ?_, (HM0.out.since HWF.out).cast (by simp only [List.append_assoc])⟩
  rw [HLE.out]
  exact FC.one' (fun k => by simp [goesJ]) (by simp) (by simp) (by simp [ndT]) (by simp [ndG]) (by simp [ndTB, ndGB]) rfl
 ·have HOP := hid hop
  have y0' : w1.cell? ⟨B3, 0, none⟩ = some (.int .i64 2) := by rw [← hop]; exact y0
  clear y0 hop
  have hle := HRT.out.leaf (.inr HOP.out)
  have HLE := hid hle
  have HP := hid (put0 HM1.out 2 0 0 x.s (by have := HL.out; omega))
  clear hle
  go_wp2_with fail
  refine HP.out.mono ?_
  rintro e w3 ⟨rfl, hw⟩
  have HWF := hid hw
  clear hw HP
  clear y0' y1 y2 y3 y4 y5 y6 y7
  go_wp2_with fail
  go_end0
  refine ⟨rfl, [⟨2, 0, 0, x.s, m.ln⟩], ?_, (HM0.out.since HWF.out).cast (by simp only [List.append_assoc])⟩
  rw [HLE.out]
  exact FC.one' (fun k => by simp [goesJ]) (by simp) (by simp) (by simp [ndT]) (by simp [ndG]) (by simp [ndTB, ndGB]) rfl
 ·have HOP := hid hop
  have y0' := y0
  clear y0
  obtain ⟨a, hxl, hra, hle⟩ := HRT.out.one hop rfl
  have HXL := hid hxl; have HLE := hid hle
  have hnl := HNL.out
  obtain ⟨b0, o0, ava, avc, al, alc, e0, -, hva, a0, a1, a2, a3, a4, a5, a6, a7⟩ := HNL.out.at (k := 0) (y := a) (by rw [HXL.out]; rfl)
  subst e0
  simp only [Nat.zero_mul, Nat.add_zero, Nat.one_mul, Nat.reduceMul] at a0 a1 a2 a3 a4 a5 a6 a7
  have HCa := hid (And.intro (And.intro a0 a1) (And.intro (And.intro a2 a3) (And.intro (And.intro a4 a5) (And.intro a6 a7)))); have HVa := hid hva; have HRa := hid hra
  have hcc : a.cnt < N ∧ a.sz ≤ 1048576 := by
   have h := HB.out
   rw [HXL.out] at h
   simp only [cntL, szL] at h
   omega
  have HCC := hid hcc
  have hln : x.l.length = 1 := by rw [HXL.out]; rfl
  have HLN := hid hln
  rw [hln] at y7
  rw [hln]
  clear hcc hln hnl hxl hle a0 a1 a2 a3 a4 a5 a6 a7 hva hra
  obtain ⟨op, hopx⟩ : ∃ op, x.op = op := ⟨_, rfl⟩
  have HOX := hid hopx
  have HK := hid (fun (w5 : World) (h : NKept w1 w5) => show w5.cell? ⟨B3, 0, none⟩ = some (.int .i64 op) by rw [← hopx]; exact (HK0.out w5 h).1)
  rw [hopx] at y0' hop ⊢
  clear hopx HK0 HOP0
  have h12 : (op == 1) = false ∧ (op == 2) = false := by rcases hop with rfl | rfl <;> decide
  have hop3 : op = 3 ∨ op = 4 := hop
  clear hop
  rcases hop3 with rfl | rfl
  ·clear h12
   obtain ⟨⟨q0, q1⟩, ⟨q2, q3⟩, ⟨q4, q5⟩, q6, q7⟩ := HCa.out
   replace q0 := HM1.out.f.cell q0 not_false
   replace q1 := HM1.out.f.cell q1 not_false
   replace q2 := HM1.out.f.cell q2 not_false
   replace q3 := HM1.out.f.cell q3 not_false
   replace q4 := HM1.out.f.cell q4 not_false
   replace q5 := HM1.out.f.cell q5 not_false
   replace q6 := HM1.out.f.cell q6 not_false
   replace q7 := HM1.out.f.cell q7 not_false
   have HCE := hid (HIH.out a HCC.out.1 HCC.out.2 HRa.out D W w1 _ _ X C sv _ HVa.out HM1.out (by (try dsimp only); have := HL.out; have := HLE.out; omega))
   go_wp2_with fail
   refine HCE.out.mono ?_
   rintro e w2 ⟨rfl, c0, hc, hw⟩
   try dsimp only at hc hw
   have HCc0 := hid hc; have HMw2 := hid hw
   clear hc hw HCE q0 q1 q2 q3 q4 q5 q6 q7 y0' y1 y2 y3 y4 y5 y6 y7
   have hq : (m.L ++ c0 : List J).length = m.L.length + lenR a 0 := by rw [List.length_append, HCc0.out.1]
   have HN2 := hid hq
   clear hq
   have z0 := HK.out w2 HMw2.out.kp
   have HP := hid (put0 HMw2.out 4 3 0 ⟨#[]⟩ (by rw [HN2.out]; have := HL.out; have := HLE.out; omega))
   go_wp2_with fail
   refine HP.out.mono ?_
   rintro e w3 ⟨rfl, hw⟩
   have HWF := hid hw
   clear hw HP z0
   go_wp2_with fail
   go_end0
   refine ⟨rfl, c0 ++ [⟨4, 3, 0, ⟨#[]⟩, m.ln⟩], ?_, (HM0.out.since HWF.out).cast (by simp only [List.append_assoc])⟩
   rw [show lenR x 0 = lenR a 0 + 1 by have := HLE.out; omega]
   exact HCc0.out.put 1 1 (fun m => by simp [goesJ]) (by simp) (fun e => by simp at e) (by simp [ndT]) (by simp [ndG]) (by simp [ndTB, ndGB]) (by omega) (by omega) rfl (d' := 1) (by omega)
  ·clear h12
   obtain ⟨⟨q0, q1⟩, ⟨q2, q3⟩, ⟨q4, q5⟩, q6, q7⟩ := HCa.out
   replace q0 := HM1.out.f.cell q0 not_false
   replace q1 := HM1.out.f.cell q1 not_false
   replace q2 := HM1.out.f.cell q2 not_false
   replace q3 := HM1.out.f.cell q3 not_false
   replace q4 := HM1.out.f.cell q4 not_false
   replace q5 := HM1.out.f.cell q5 not_false
   replace q6 := HM1.out.f.cell q6 not_false
   replace q7 := HM1.out.f.cell q7 not_false
   have HCE := hid (HIH.out a HCC.out.1 HCC.out.2 HRa.out D W w1 _ _ X C sv _ HVa.out HM1.out (by (try dsimp only); have := HL.out; have := HLE.out; omega))
   go_wp2_with fail
   refine HCE.out.mono ?_
   rintro e w2 ⟨rfl, c0, hc, hw⟩
   try dsimp only at hc hw
   have HCc0 := hid hc; have HMw2 := hid hw
   clear hc hw HCE q0 q1 q2 q3 q4 q5 q6 q7 y0' y1 y2 y3 y4 y5 y6 y7
   have hq : (m.L ++ c0 : List J).length = m.L.length + lenR a 0 := by rw [List.length_append, HCc0.out.1]
   have HN2 := hid hq
   clear hq
   have z0 := HK.out w2 HMw2.out.kp
   have HP := hid (put0 HMw2.out 4 4 0 ⟨#[]⟩ (by rw [HN2.out]; have := HL.out; have := HLE.out; omega))
   go_wp2_with fail
   refine HP.out.mono ?_
   rintro e w3 ⟨rfl, hw⟩
   have HWF := hid hw
   clear hw HP z0
   go_wp2_with fail
   go_end0
   refine ⟨rfl, c0 ++ [⟨4, 4, 0, ⟨#[]⟩, m.ln⟩], ?_, (HM0.out.since HWF.out).cast (by simp only [List.append_assoc])⟩
   rw [show lenR x 0 = lenR a 0 + 1 by have := HLE.out; omega]
   exact HCc0.out.put 1 1 (fun m => by simp [goesJ]) (by simp) (fun e => by simp at e) (by simp [ndT]) (by simp [ndG]) (by simp [ndTB, ndGB]) (by omega) (by omega) rfl (d' := 1) (by omega)
 ·rcases hop with hop | hop
  ·have HOP := hid hop
   have y0' : w1.cell? ⟨B3, 0, none⟩ = some (.int .i64 17) := by rw [← hop]; exact y0
   clear y0 hop
   obtain ⟨a, b, hxl, hra, hrb, hle⟩ := HRT.out.two (by rw [HOP.out]; omega)
   have HXL := hid hxl; have HLE := hid hle
   have hnl := HNL.out
   obtain ⟨b0, o0, ava, avc, al, alc, e0, -, hva, a0, a1, a2, a3, a4, a5, a6, a7⟩ := HNL.out.at (k := 0) (y := a) (by rw [HXL.out]; rfl)
   subst e0
   obtain ⟨b1, o1, bva, bvc, bl, blc, e1, -, hvb, b0, b1, b2, b3, b4, b5, b6, b7⟩ := HNL.out.at (k := 1) (y := b) (by rw [HXL.out]; rfl)
   simp only [Option.some.injEq, Addr.mk.injEq] at e1
   obtain ⟨rfl, rfl, -⟩ := e1
   simp only [Nat.zero_mul, Nat.add_zero, Nat.one_mul, Nat.reduceMul] at a0 a1 a2 a3 a4 a5 a6 a7 b0 b1 b2 b3 b4 b5 b6 b7
   have HCa := hid (And.intro (And.intro a0 a1) (And.intro (And.intro a2 a3) (And.intro (And.intro a4 a5) (And.intro a6 a7)))); have HVa := hid hva; have HRa := hid hra
   have HCb := hid (And.intro (And.intro b0 b1) (And.intro (And.intro b2 b3) (And.intro (And.intro b4 b5) (And.intro b6 b7)))); have HVb := hid hvb; have HRb := hid hrb
   have hcc : a.cnt < N ∧ a.sz ≤ 1048576 ∧ b.cnt < N ∧ b.sz ≤ 1048576 := by
    have h := HB.out
    rw [HXL.out] at h
    simp only [cntL, szL] at h
    omega
   have HCC := hid hcc
   have hln : x.l.length = 2 := by rw [HXL.out]; rfl
   have HLN := hid hln
   rw [hln] at y7
   rw [hln]
   clear hcc hln hnl hxl hle a0 a1 a2 a3 a4 a5 a6 a7 b0 b1 b2 b3 b4 b5 b6 b7 hva hra hvb hrb
   obtain ⟨⟨q0, q1⟩, ⟨q2, q3⟩, ⟨q4, q5⟩, q6, q7⟩ := HCa.out
   replace q0 := HM1.out.f.cell q0 not_false
   replace q1 := HM1.out.f.cell q1 not_false
   replace q2 := HM1.out.f.cell q2 not_false
   replace q3 := HM1.out.f.cell q3 not_false
   replace q4 := HM1.out.f.cell q4 not_false
   replace q5 := HM1.out.f.cell q5 not_false
   replace q6 := HM1.out.f.cell q6 not_false
   replace q7 := HM1.out.f.cell q7 not_false
   have HCE := hid (HIH.out a HCC.out.1 HCC.out.2.1 HRa.out D W w1 _ _ X C sv _ HVa.out HM1.out (by (try dsimp only); have := HL.out; have := HLE.out; omega))
   go_wp2_with fail
   refine HCE.out.mono ?_
   rintro e w2 ⟨rfl, c0, hc, hw⟩
   try dsimp only at hc hw
   have HCc0 := hid hc; have HMw2 := hid hw
   clear hc hw HCE q0 q1 q2 q3 q4 q5 q6 q7 
   have hq : (m.L ++ c0 : List J).length = m.L.length + lenR a 0 := by rw [List.length_append, HCc0.out.1]
   have HN2 := hid hq
   clear hq
   have HP := hid (put0 HMw2.out 8 0 0 ⟨#[]⟩ (by rw [HN2.out]; have := HL.out; have := HLE.out; omega))
   go_wp2_with fail
   refine HP.out.mono ?_
   rintro e w3 ⟨rfl, hw⟩
   have HMw3 := hid hw
   rw [HN2.out]
   clear hw HP y0' y1 y2 y3 y4 y5 y6 y7
   have hq : (m.L ++ c0 ++ [(J.mk 8 (0) (0) ⟨#[]⟩ m.ln)] : List J).length = m.L.length + lenR a 0 + 1 := by rw [List.length_append, HN2.out]; rfl
   have HN3 := hid hq
   clear hq
   obtain ⟨⟨q0, q1⟩, ⟨q2, q3⟩, ⟨q4, q5⟩, q6, q7⟩ := HCb.out
   replace q0 := HMw3.out.f.cell q0 not_false
   replace q1 := HMw3.out.f.cell q1 not_false
   replace q2 := HMw3.out.f.cell q2 not_false
   replace q3 := HMw3.out.f.cell q3 not_false
   replace q4 := HMw3.out.f.cell q4 not_false
   replace q5 := HMw3.out.f.cell q5 not_false
   replace q6 := HMw3.out.f.cell q6 not_false
   replace q7 := HMw3.out.f.cell q7 not_false
   have HCE := hid (HIH.out b HCC.out.2.2.1 HCC.out.2.2.2 HRb.out D W w1 _ _ X C sv _ HVb.out HMw3.out (by (try dsimp only); rw [HN3.out]; have := HL.out; have := HLE.out; omega))
   go_wp2_with fail
   refine HCE.out.mono ?_
   rintro e w4 ⟨rfl, c1, hc, hw⟩
   try dsimp only at hc hw
   rw [HN3.out] at hc
   have HCc1 := hid hc; have HMw4 := hid hw
   clear hc hw HCE q0 q1 q2 q3 q4 q5 q6 q7 
   have hq : (m.L ++ c0 ++ [(J.mk 8 (0) (0) ⟨#[]⟩ m.ln)] ++ c1 : List J).length = m.L.length + lenR a 0 + 1 + lenR b 0 := by rw [List.length_append, HN3.out, HCc1.out.1]
   have HN4 := hid hq
   clear hq
   have HHE := hid (here_mid HMw4.out (A := m.L ++ c0) (j := (J.mk 8 (0) (0) ⟨#[]⟩ m.ln)) (B := c1) (by simp) (k := m.L.length + lenR a 0) (by rw [HN2.out]) (by rw [HN4.out]; have := HL.out; have := HLE.out; omega))
   go_wp2_with fail
   refine HHE.out.mono ?_
   rintro e w5 ⟨rfl, hw⟩
   rw [HN4.out] at hw
   have HWF := hid hw
   clear hw HHE
   go_wp2_with fail
   go_end0
   refine ⟨rfl, c0 ++ [⟨8, ((m.L.length + lenR a 0 + 1 + lenR b 0 : Nat) : Int), 0, ⟨#[]⟩, m.ln⟩] ++ c1, ?_, (HM0.out.since HWF.out).cast (by simp)⟩
   rw [show lenR x 0 = lenR a 0 + 1 + lenR b 0 by have := HLE.out; omega]
   exact HCc0.out.and HCc1.out (by omega) (by omega) rfl
  ·have HOP := hid hop
   have y0' : w1.cell? ⟨B3, 0, none⟩ = some (.int .i64 18) := by rw [← hop]; exact y0
   clear y0 hop
   obtain ⟨a, b, hxl, hra, hrb, hle⟩ := HRT.out.two (by rw [HOP.out]; omega)
   have HXL := hid hxl; have HLE := hid hle
   have hnl := HNL.out
   obtain ⟨b0, o0, ava, avc, al, alc, e0, -, hva, a0, a1, a2, a3, a4, a5, a6, a7⟩ := HNL.out.at (k := 0) (y := a) (by rw [HXL.out]; rfl)
   subst e0
   obtain ⟨b1, o1, bva, bvc, bl, blc, e1, -, hvb, b0, b1, b2, b3, b4, b5, b6, b7⟩ := HNL.out.at (k := 1) (y := b) (by rw [HXL.out]; rfl)
   simp only [Option.some.injEq, Addr.mk.injEq] at e1
   obtain ⟨rfl, rfl, -⟩ := e1
   simp only [Nat.zero_mul, Nat.add_zero, Nat.one_mul, Nat.reduceMul] at a0 a1 a2 a3 a4 a5 a6 a7 b0 b1 b2 b3 b4 b5 b6 b7
   have HCa := hid (And.intro (And.intro a0 a1) (And.intro (And.intro a2 a3) (And.intro (And.intro a4 a5) (And.intro a6 a7)))); have HVa := hid hva; have HRa := hid hra
   have HCb := hid (And.intro (And.intro b0 b1) (And.intro (And.intro b2 b3) (And.intro (And.intro b4 b5) (And.intro b6 b7)))); have HVb := hid hvb; have HRb := hid hrb
   have hcc : a.cnt < N ∧ a.sz ≤ 1048576 ∧ b.cnt < N ∧ b.sz ≤ 1048576 := by
    have h := HB.out
    rw [HXL.out] at h
    simp only [cntL, szL] at h
    omega
   have HCC := hid hcc
   have hln : x.l.length = 2 := by rw [HXL.out]; rfl
   have HLN := hid hln
   rw [hln] at y7
   rw [hln]
   clear hcc hln hnl hxl hle a0 a1 a2 a3 a4 a5 a6 a7 b0 b1 b2 b3 b4 b5 b6 b7 hva hra hvb hrb
   obtain ⟨⟨q0, q1⟩, ⟨q2, q3⟩, ⟨q4, q5⟩, q6, q7⟩ := HCa.out
   replace q0 := HM1.out.f.cell q0 not_false
   replace q1 := HM1.out.f.cell q1 not_false
   replace q2 := HM1.out.f.cell q2 not_false
   replace q3 := HM1.out.f.cell q3 not_false
   replace q4 := HM1.out.f.cell q4 not_false
   replace q5 := HM1.out.f.cell q5 not_false
   replace q6 := HM1.out.f.cell q6 not_false
   replace q7 := HM1.out.f.cell q7 not_false
   have HCE := hid (HIH.out a HCC.out.1 HCC.out.2.1 HRa.out D W w1 _ _ X C sv _ HVa.out HM1.out (by (try dsimp only); have := HL.out; have := HLE.out; omega))
   go_wp2_with fail
   refine HCE.out.mono ?_
   rintro e w2 ⟨rfl, c0, hc, hw⟩
   try dsimp only at hc hw
   have HCc0 := hid hc; have HMw2 := hid hw
   clear hc hw HCE q0 q1 q2 q3 q4 q5 q6 q7 
   have hq : (m.L ++ c0 : List J).length = m.L.length + lenR a 0 := by rw [List.length_append, HCc0.out.1]
   have HN2 := hid hq
   clear hq
   have HP := hid (put0 HMw2.out 9 0 0 ⟨#[]⟩ (by rw [HN2.out]; have := HL.out; have := HLE.out; omega))
   go_wp2_with fail
   refine HP.out.mono ?_
   rintro e w3 ⟨rfl, hw⟩
   have HMw3 := hid hw
   rw [HN2.out]
   clear hw HP y0' y1 y2 y3 y4 y5 y6 y7
   have hq : (m.L ++ c0 ++ [(J.mk 9 (0) (0) ⟨#[]⟩ m.ln)] : List J).length = m.L.length + lenR a 0 + 1 := by rw [List.length_append, HN2.out]; rfl
   have HN3 := hid hq
   clear hq
   obtain ⟨⟨q0, q1⟩, ⟨q2, q3⟩, ⟨q4, q5⟩, q6, q7⟩ := HCb.out
   replace q0 := HMw3.out.f.cell q0 not_false
   replace q1 := HMw3.out.f.cell q1 not_false
   replace q2 := HMw3.out.f.cell q2 not_false
   replace q3 := HMw3.out.f.cell q3 not_false
   replace q4 := HMw3.out.f.cell q4 not_false
   replace q5 := HMw3.out.f.cell q5 not_false
   replace q6 := HMw3.out.f.cell q6 not_false
   replace q7 := HMw3.out.f.cell q7 not_false
   have HCE := hid (HIH.out b HCC.out.2.2.1 HCC.out.2.2.2 HRb.out D W w1 _ _ X C sv _ HVb.out HMw3.out (by (try dsimp only); rw [HN3.out]; have := HL.out; have := HLE.out; omega))
   go_wp2_with fail
   refine HCE.out.mono ?_
   rintro e w4 ⟨rfl, c1, hc, hw⟩
   try dsimp only at hc hw
   rw [HN3.out] at hc
   have HCc1 := hid hc; have HMw4 := hid hw
   clear hc hw HCE q0 q1 q2 q3 q4 q5 q6 q7 
   have hq : (m.L ++ c0 ++ [(J.mk 9 (0) (0) ⟨#[]⟩ m.ln)] ++ c1 : List J).length = m.L.length + lenR a 0 + 1 + lenR b 0 := by rw [List.length_append, HN3.out, HCc1.out.1]
   have HN4 := hid hq
   clear hq
   have HHE := hid (here_mid HMw4.out (A := m.L ++ c0) (j := (J.mk 9 (0) (0) ⟨#[]⟩ m.ln)) (B := c1) (by simp) (k := m.L.length + lenR a 0) (by rw [HN2.out]) (by rw [HN4.out]; have := HL.out; have := HLE.out; omega))
   go_wp2_with fail
   refine HHE.out.mono ?_
   rintro e w5 ⟨rfl, hw⟩
   rw [HN4.out] at hw
   have HWF := hid hw
   clear hw HHE
   go_wp2_with fail
   go_end0
   refine ⟨rfl, c0 ++ [⟨9, ((m.L.length + lenR a 0 + 1 + lenR b 0 : Nat) : Int), 0, ⟨#[]⟩, m.ln⟩] ++ c1, ?_, (HM0.out.since HWF.out).cast (by simp)⟩
   rw [show lenR x 0 = lenR a 0 + 1 + lenR b 0 by have := HLE.out; omega]
   exact HCc0.out.and HCc1.out (by omega) (by omega) rfl
 ·have HOP := hid hop
  have y0' : w1.cell? ⟨B3, 0, none⟩ = some (.int .i64 19) := by rw [← hop]; exact y0
  clear y0 hop
  obtain ⟨a, b, c, hxl, hra, hrb, hrc, hle⟩ := HRT.out.three (.inl HOP.out)
  rw [if_pos HOP.out] at hle
  have HXL := hid hxl; have HLE := hid hle
  have hnl := HNL.out
  obtain ⟨b0, o0, ava, avc, al, alc, e0, -, hva, a0, a1, a2, a3, a4, a5, a6, a7⟩ := HNL.out.at (k := 0) (y := a) (by rw [HXL.out]; rfl)
  subst e0
  obtain ⟨b1, o1, bva, bvc, bl, blc, e1, -, hvb, b0, b1, b2, b3, b4, b5, b6, b7⟩ := HNL.out.at (k := 1) (y := b) (by rw [HXL.out]; rfl)
  simp only [Option.some.injEq, Addr.mk.injEq] at e1
  obtain ⟨rfl, rfl, -⟩ := e1
  obtain ⟨b2, o2, cva, cvc, cl, clc, e2, -, hvc, c0, c1, c2, c3, c4, c5, c6, c7⟩ := HNL.out.at (k := 2) (y := c) (by rw [HXL.out]; rfl)
  simp only [Option.some.injEq, Addr.mk.injEq] at e2
  obtain ⟨rfl, rfl, -⟩ := e2
  simp only [Nat.zero_mul, Nat.add_zero, Nat.one_mul, Nat.reduceMul] at a0 a1 a2 a3 a4 a5 a6 a7 b0 b1 b2 b3 b4 b5 b6 b7 c0 c1 c2 c3 c4 c5 c6 c7
  have HCa := hid (And.intro (And.intro a0 a1) (And.intro (And.intro a2 a3) (And.intro (And.intro a4 a5) (And.intro a6 a7)))); have HVa := hid hva; have HRa := hid hra
  have HCb := hid (And.intro (And.intro b0 b1) (And.intro (And.intro b2 b3) (And.intro (And.intro b4 b5) (And.intro b6 b7)))); have HVb := hid hvb; have HRb := hid hrb
  have HCc := hid (And.intro (And.intro c0 c1) (And.intro (And.intro c2 c3) (And.intro (And.intro c4 c5) (And.intro c6 c7)))); have HVc := hid hvc; have HRc := hid hrc
  have hcc : a.cnt < N ∧ a.sz ≤ 1048576 ∧ b.cnt < N ∧ b.sz ≤ 1048576 ∧ c.cnt < N ∧ c.sz ≤ 1048576 := by
   have h := HB.out
   rw [HXL.out] at h
   simp only [cntL, szL] at h
   omega
  have HCC := hid hcc
  have hln : x.l.length = 3 := by rw [HXL.out]; rfl
  have HLN := hid hln
  rw [hln] at y7
  rw [hln]
  clear hcc hln hnl hxl hle a0 a1 a2 a3 a4 a5 a6 a7 b0 b1 b2 b3 b4 b5 b6 b7 c0 c1 c2 c3 c4 c5 c6 c7 hva hra hvb hrb hvc hrc
  obtain ⟨⟨q0, q1⟩, ⟨q2, q3⟩, ⟨q4, q5⟩, q6, q7⟩ := HCa.out
  replace q0 := HM1.out.f.cell q0 not_false
  replace q1 := HM1.out.f.cell q1 not_false
  replace q2 := HM1.out.f.cell q2 not_false
  replace q3 := HM1.out.f.cell q3 not_false
  replace q4 := HM1.out.f.cell q4 not_false
  replace q5 := HM1.out.f.cell q5 not_false
  replace q6 := HM1.out.f.cell q6 not_false
  replace q7 := HM1.out.f.cell q7 not_false
  have HCE := hid (HIH.out a HCC.out.1 HCC.out.2.1 HRa.out D W w1 _ _ X C sv _ HVa.out HM1.out (by (try dsimp only); have := HL.out; have := HLE.out; omega))
  go_wp2_with fail
  refine HCE.out.mono ?_
  rintro e w2 ⟨rfl, c0, hc, hw⟩
  try dsimp only at hc hw
  have HCc0 := hid hc; have HMw2 := hid hw
  clear hc hw HCE q0 q1 q2 q3 q4 q5 q6 q7 
  have hq : (m.L ++ c0 : List J).length = m.L.length + lenR a 0 := by rw [List.length_append, HCc0.out.1]
  have HN2 := hid hq
  clear hq
  have HP := hid (put0 HMw2.out 7 0 0 ⟨#[]⟩ (by rw [HN2.out]; have := HL.out; have := HLE.out; omega))
  go_wp2_with fail
  refine HP.out.mono ?_
  rintro e w3 ⟨rfl, hw⟩
  have HMw3 := hid hw
  rw [HN2.out]
  clear hw HP y0' y1 y2 y3 y4 y5 y6 y7
  have hq : (m.L ++ c0 ++ [(J.mk 7 (0) (0) ⟨#[]⟩ m.ln)] : List J).length = m.L.length + lenR a 0 + 1 := by rw [List.length_append, HN2.out]; rfl
  have HN3 := hid hq
  clear hq
  obtain ⟨⟨q0, q1⟩, ⟨q2, q3⟩, ⟨q4, q5⟩, q6, q7⟩ := HCb.out
  replace q0 := HMw3.out.f.cell q0 not_false
  replace q1 := HMw3.out.f.cell q1 not_false
  replace q2 := HMw3.out.f.cell q2 not_false
  replace q3 := HMw3.out.f.cell q3 not_false
  replace q4 := HMw3.out.f.cell q4 not_false
  replace q5 := HMw3.out.f.cell q5 not_false
  replace q6 := HMw3.out.f.cell q6 not_false
  replace q7 := HMw3.out.f.cell q7 not_false
  have HCE := hid (HIH.out b HCC.out.2.2.1 HCC.out.2.2.2.1 HRb.out D W w1 _ _ X C sv _ HVb.out HMw3.out (by (try dsimp only); rw [HN3.out]; have := HL.out; have := HLE.out; omega))
  go_wp2_with fail
  refine HCE.out.mono ?_
  rintro e w4 ⟨rfl, c1, hc, hw⟩
  try dsimp only at hc hw
  rw [HN3.out] at hc
  have HCc1 := hid hc; have HMw4 := hid hw
  clear hc hw HCE q0 q1 q2 q3 q4 q5 q6 q7 
  have hq : (m.L ++ c0 ++ [(J.mk 7 (0) (0) ⟨#[]⟩ m.ln)] ++ c1 : List J).length = m.L.length + lenR a 0 + 1 + lenR b 0 := by rw [List.length_append, HN3.out, HCc1.out.1]
  have HN4 := hid hq
  clear hq
  have HP := hid (put0 HMw4.out 6 0 0 ⟨#[]⟩ (by rw [HN4.out]; have := HL.out; have := HLE.out; omega))
  go_wp2_with fail
  refine HP.out.mono ?_
  rintro e w5 ⟨rfl, hw⟩
  rw [HN4.out]
  have hq : (m.L ++ c0 ++ [(J.mk 7 (0) (0) ⟨#[]⟩ m.ln)] ++ c1 ++ [(J.mk 6 (0) (0) ⟨#[]⟩ m.ln)] : List J).length = m.L.length + lenR a 0 + 1 + lenR b 0 + 1 := by rw [List.length_append, HN4.out]; rfl
  have HN5 := hid hq
  clear hq
  have HHE := hid (here_mid hw (A := m.L ++ c0) (j := (J.mk 7 (0) (0) ⟨#[]⟩ m.ln)) (B := c1 ++ [(J.mk 6 (0) (0) ⟨#[]⟩ m.ln)]) (by simp) (k := m.L.length + lenR a 0) (by rw [HN2.out]) (by rw [HN5.out]; have := HL.out; have := HLE.out; omega))
  clear hw HP
  go_wp2_with fail
  refine HHE.out.mono ?_
  rintro e w6 ⟨rfl, hw⟩
  rw [HN5.out] at hw
  have hw2 := hw.cast (L' := m.L ++ c0 ++ [(J.mk 7 ((m.L.length + lenR a 0 + 1 + lenR b 0 + 1 : Nat) : Int) 0 ⟨#[]⟩ m.ln)] ++ c1 ++ [(J.mk 6 (0) (0) ⟨#[]⟩ m.ln)]) (by simp)
  have HMw6 := hid hw2
  clear hw hw2 HHE
  have hq : (m.L ++ c0 ++ [(J.mk 7 ((m.L.length + lenR a 0 + 1 + lenR b 0 + 1 : Nat) : Int) 0 ⟨#[]⟩ m.ln)] ++ c1 ++ [(J.mk 6 (0) (0) ⟨#[]⟩ m.ln)] : List J).length = m.L.length + lenR a 0 + 1 + lenR b 0 + 1 := by simp [HCc0.out.1, HCc1.out.1]; omega
  have HN6 := hid hq
  clear hq
  obtain ⟨⟨q0, q1⟩, ⟨q2, q3⟩, ⟨q4, q5⟩, q6, q7⟩ := HCc.out
  replace q0 := HMw6.out.f.cell q0 not_false
  replace q1 := HMw6.out.f.cell q1 not_false
  replace q2 := HMw6.out.f.cell q2 not_false
  replace q3 := HMw6.out.f.cell q3 not_false
  replace q4 := HMw6.out.f.cell q4 not_false
  replace q5 := HMw6.out.f.cell q5 not_false
  replace q6 := HMw6.out.f.cell q6 not_false
  replace q7 := HMw6.out.f.cell q7 not_false
  have HCE := hid (HIH.out c HCC.out.2.2.2.2.1 HCC.out.2.2.2.2.2 HRc.out D W w1 _ _ X C sv _ HVc.out HMw6.out (by (try dsimp only); rw [HN6.out]; have := HL.out; have := HLE.out; omega))
  go_wp2_with fail
  refine HCE.out.mono ?_
  rintro e w7 ⟨rfl, c2, hc, hw⟩
  try dsimp only at hc hw
  rw [HN6.out] at hc
  have HCc2 := hid hc; have HMw7 := hid hw
  clear hc hw HCE q0 q1 q2 q3 q4 q5 q6 q7 
  have hq : (m.L ++ c0 ++ [(J.mk 7 ((m.L.length + lenR a 0 + 1 + lenR b 0 + 1 : Nat) : Int) 0 ⟨#[]⟩ m.ln)] ++ c1 ++ [(J.mk 6 (0) (0) ⟨#[]⟩ m.ln)] ++ c2 : List J).length = m.L.length + lenR a 0 + 1 + lenR b 0 + 1 + lenR c 0 := by rw [List.length_append, HN6.out, HCc2.out.1]
  have HN7 := hid hq
  clear hq
  have HHE := hid (here_mid HMw7.out (A := m.L ++ c0 ++ [(J.mk 7 ((m.L.length + lenR a 0 + 1 + lenR b 0 + 1 : Nat) : Int) 0 ⟨#[]⟩ m.ln)] ++ c1) (j := (J.mk 6 (0) (0) ⟨#[]⟩ m.ln)) (B := c2) (by simp) (k := m.L.length + lenR a 0 + 1 + lenR b 0) (by simp [HCc0.out.1, HCc1.out.1]; omega) (by rw [HN7.out]; have := HL.out; have := HLE.out; omega))
  go_wp2_with fail
  refine HHE.out.mono ?_
  rintro e w8 ⟨rfl, hw⟩
  rw [HN7.out] at hw
  have HWF := hid hw
  clear hw HHE
  go_wp2_with fail
  go_end0
  refine ⟨rfl, c0 ++ [(J.mk 7 ((m.L.length + lenR a 0 + 1 + lenR b 0 + 1 : Nat) : Int) 0 ⟨#[]⟩ m.ln)] ++ c1 ++ [⟨6, ((m.L.length + lenR a 0 + 1 + lenR b 0 + 1 + lenR c 0 : Nat) : Int), 0, ⟨#[]⟩, m.ln⟩] ++ c2, ?_, (HM0.out.since HWF.out).cast (by simp)⟩
  rw [show lenR x 0 = lenR a 0 + 1 + lenR b 0 + 1 + lenR c 0 by have := HLE.out; omega]
  exact HCc0.out.cond HCc1.out HCc2.out (by omega) (by omega) rfl rfl
 ·have HOP := hid hop
  have y0' : w1.cell? ⟨B3, 0, none⟩ = some (.int .i64 20) := by rw [← hop]; exact y0
  clear y0 hop
  obtain ⟨a, b, hxl, hra, hrb, hle⟩ := HRT.out.two (by rw [HOP.out]; omega)
  have HXL := hid hxl; have HLE := hid hle
  have hsm : sumR 0 x.l = lenR x 0 - 1 := by rw [hxl, hle]; simp only [sumR]; omega
  have HSM := hid hsm
  have hln : x.l.length = 2 := by rw [hxl]; rfl
  have HLN := hid hln
  have HCA := hid (all_of N HIH.out x.l (by have := HB.out; omega) (by have := HB.out; omega) (fun z hz => by
   rw [hxl] at hz
   simp only [List.mem_cons, List.not_mem_nil, or_false] at hz
   rcases hz with rfl | rfl
   ·exact hra
   ·exact hrb) D W w1 _ _ X C sv _ HNL.out.nv HM1.out (by rw [hsm]; have := HL.out; omega))
  rw [hln] at HCA
  rw [hln] at y7
  rw [hln]
  clear hsm hln hxl hle hra hrb
  go_wp2_with fail
  refine HCA.out.mono ?_
  rintro e w2 ⟨rfl, c0, hc, hw⟩
  rw [HSM.out] at hc
  have HCc0 := hid hc; have HMw2 := hid hw
  clear hc hw HCA y0' y1 y2 y3 y4 y5 y6 y7
  have hq : (m.L ++ c0 : List J).length = m.L.length + (lenR x 0 - 1) := by rw [List.length_append, HCc0.out.1]
  have HP := hid (put0 HMw2.out 10 0 0 ⟨#[]⟩ (by rw [hq]; have := HL.out; omega))
  clear hq
  go_wp2_with fail
  refine HP.out.mono ?_
  rintro e w3 ⟨rfl, hw⟩
  have HWF := hid hw
  clear hw HP
  go_wp2_with fail
  go_end0
  refine ⟨rfl, c0 ++ [⟨10, 0, 0, ⟨#[]⟩, m.ln⟩], ?_, (HM0.out.since HWF.out).cast (by simp only [List.append_assoc])⟩
  have h1 := HCc0.out
  rw [show lenR x 0 = (lenR x 0 - 1) + 1 by have := HLE.out; omega]
  exact h1.put 2 1 (fun m => by simp [goesJ]) (by simp) (fun e => by simp at e) (by simp [ndT]) (by simp [ndG]) (by simp [ndTB, ndGB]) (by omega) (by omega) rfl (d' := 1) (by omega)
 ·have HOP := hid hop
  have y0' : w1.cell? ⟨B3, 0, none⟩ = some (.int .i64 21) := by rw [← hop]; exact y0
  clear y0 hop
  obtain ⟨a, b, c, hxl, hra, hrb, hrc, hle⟩ := HRT.out.three (.inr HOP.out)
  rw [if_neg (by rw [HOP.out]; decide)] at hle
  have HXL := hid hxl; have HLE := hid hle
  have hsm : sumR 0 x.l = lenR x 0 - 1 := by rw [hxl, hle]; simp only [sumR]; omega
  have HSM := hid hsm
  have hln : x.l.length = 3 := by rw [hxl]; rfl
  have HLN := hid hln
  have HCA := hid (all_of N HIH.out x.l (by have := HB.out; omega) (by have := HB.out; omega) (fun z hz => by
   rw [hxl] at hz
   simp only [List.mem_cons, List.not_mem_nil, or_false] at hz
   rcases hz with rfl | rfl | rfl
   ·exact hra
   ·exact hrb
   ·exact hrc) D W w1 _ _ X C sv _ HNL.out.nv HM1.out (by rw [hsm]; have := HL.out; omega))
  rw [hln] at HCA
  rw [hln] at y7
  rw [hln]
  clear hsm hln hxl hle hra hrb hrc
  go_wp2_with fail
  refine HCA.out.mono ?_
  rintro e w2 ⟨rfl, c0, hc, hw⟩
  rw [HSM.out] at hc
  have HCc0 := hid hc; have HMw2 := hid hw
  clear hc hw HCA y0' y1 y2 y3 y4 y5 y6 y7
  have hq : (m.L ++ c0 : List J).length = m.L.length + (lenR x 0 - 1) := by rw [List.length_append, HCc0.out.1]
  have HP := hid (put0 HMw2.out 11 0 0 ⟨#[]⟩ (by rw [hq]; have := HL.out; omega))
  clear hq
  go_wp2_with fail
  refine HP.out.mono ?_
  rintro e w3 ⟨rfl, hw⟩
  have HWF := hid hw
  clear hw HP
  go_wp2_with fail
  go_end0
  refine ⟨rfl, c0 ++ [⟨11, 0, 0, ⟨#[]⟩, m.ln⟩], ?_, (HM0.out.since HWF.out).cast (by simp only [List.append_assoc])⟩
  have h1 := HCc0.out
  rw [show lenR x 0 = (lenR x 0 - 1) + 1 by have := HLE.out; omega]
  exact h1.put 3 1 (fun m => by simp [goesJ]) (by simp) (fun e => by simp at e) (by simp [ndT]) (by simp [ndG]) (by simp [ndTB, ndGB]) (by omega) (by omega) rfl (d' := 1) (by omega)
 ·have HOP := hid hop
  have y0' : w1.cell? ⟨B3, 0, none⟩ = some (.int .i64 22) := by rw [← hop]; exact y0
  clear y0 hop
  obtain ⟨a, b, hxl, hra, hrb, hle⟩ := HRT.out.two (by rw [HOP.out]; omega)
  have HXL := hid hxl; have HLE := hid hle
  have hsm : sumR 0 x.l = lenR x 0 - 1 := by rw [hxl, hle]; simp only [sumR]; omega
  have HSM := hid hsm
  have hln : x.l.length = 2 := by rw [hxl]; rfl
  have HLN := hid hln
  have HCA := hid (all_of N HIH.out x.l (by have := HB.out; omega) (by have := HB.out; omega) (fun z hz => by
   rw [hxl] at hz
   simp only [List.mem_cons, List.not_mem_nil, or_false] at hz
   rcases hz with rfl | rfl
   ·exact hra
   ·exact hrb) D W w1 _ _ X C sv _ HNL.out.nv HM1.out (by rw [hsm]; have := HL.out; omega))
  rw [hln] at HCA
  rw [hln] at y7
  rw [hln]
  clear hsm hln hxl hle hra hrb
  go_wp2_with fail
  refine HCA.out.mono ?_
  rintro e w2 ⟨rfl, c0, hc, hw⟩
  rw [HSM.out] at hc
  have HCc0 := hid hc; have HMw2 := hid hw
  clear hc hw HCA y0' y1 y2 y3 y4 y5 y6 y7
  have hq : (m.L ++ c0 : List J).length = m.L.length + (lenR x 0 - 1) := by rw [List.length_append, HCc0.out.1]
  have HP := hid (put0 HMw2.out 12 0 0 ⟨#[]⟩ (by rw [hq]; have := HL.out; omega))
  clear hq
  go_wp2_with fail
  refine HP.out.mono ?_
  rintro e w3 ⟨rfl, hw⟩
  have HWF := hid hw
  clear hw HP
  go_wp2_with fail
  go_end0
  refine ⟨rfl, c0 ++ [⟨12, 0, 0, ⟨#[]⟩, m.ln⟩], ?_, (HM0.out.since HWF.out).cast (by simp only [List.append_assoc])⟩
  have h1 := HCc0.out
  rw [show lenR x 0 = (lenR x 0 - 1) + 1 by have := HLE.out; omega]
  exact h1.put 2 1 (fun m => by simp [goesJ]) (by simp) (fun e => by simp at e) (by simp [ndT]) (by simp [ndG]) (by simp [ndTB, ndGB]) (by omega) (by omega) rfl (d' := 1) (by omega)
 ·have HOP := hid hop
  have y0' : w1.cell? ⟨B3, 0, none⟩ = some (.int .i64 23) := by rw [← hop]; exact y0
  clear y0 hop
  obtain ⟨a, b, r, hxl, hra, hrb, hrr, hle⟩ := HRT.out.call HOP.out
  have HXL := hid hxl; have HLE := hid hle; have HRR := hid hrr
  have hln : 2 ≤ x.l.length := by rw [hxl]; simp
  have hlnI : (2 : Int) ≤ (x.l.length : Int) := by omega
  have htk : x.l.take 2 = [a, b] := by rw [hxl]; rfl
  have hdr : x.l.drop 2 = r := by rw [hxl]; rfl
  have hnt := HNL.out.take 2 hln
  rw [htk] at hnt
  have hcn := HB.out
  rw [hxl] at hcn
  simp only [cntL, szL] at hcn
  have hne : la ≠ none := fun e => by
   obtain ⟨b0, o0, d1, d2, d3, d4, e1, -⟩ := HNL.out.at (k := 0) (y := a) (by rw [hxl]; rfl)
   rw [e] at e1; cases e1
  obtain ⟨lad, rfl⟩ : ∃ d, la = some d := by cases la with | none => exact absurd rfl hne | some d => exact ⟨d, rfl⟩
  obtain ⟨b0, o0, d1, d2, d3, d4, e1, -⟩ := HNL.out.at (k := 0) (y := a) (by rw [hxl]; rfl)
  obtain rfl := Option.some.inj e1
  have hnd := HNL.out.drop 2 hln
  rw [hdr] at hnd
  have hnz : lc = 2 → NL D W r (.slice (some ⟨b0, o0, none⟩) (x.l.length - 2) 0) := fun e => by
   have h0 : x.l.length - 2 = 0 := by omega
   have hr0 : r = [] := by
    have h1 : r.length = x.l.length - 2 := by rw [← hdr, List.length_drop]
    exact List.eq_nil_of_length_eq_zero (by omega)
   rw [h0, hr0]
   exact ⟨_, 0, fun _ => #[], rfl, Nat.le_refl _, Nat.zero_le _, fun h => (by cases h), fun i hi => by simp at hi, fun i x h => by simp at h⟩
  have hnd2 : NL D W r (.slice (some ⟨b0, o0 + 16, none⟩) (x.l.length - 2) (lc - 2)) := hnd
  have HND := hid (And.intro hnz hnd2)
  clear hnd2
  have HCA := hid (all_of N HIH.out [a, b] (by simp only [cntL]; omega) (by simp only [szL]; omega) (fun z hz => by
   simp only [List.mem_cons, List.not_mem_nil, or_false] at hz
   rcases hz with rfl | rfl
   ·exact hra
   ·exact hrb) D W w1 _ _ X C sv _ hnt.nv HM1.out (by simp only [sumR]; have := HL.out; omega))
  have HCN := hid hcn
  have hlcI : (2 : Int) ≤ (lc : Int) := by omega
  clear hxl hra hrb hrr hle htk hdr hnt hcn hne e1 hnd hnz
  go_wp2_with fail
  refine HCA.out.mono ?_
  rintro e w2 ⟨rfl, c0, hc, hw⟩
  have hs2 : sumR 0 [a, b] = lenR a 0 + lenR b 0 := by simp [sumR]
  rw [hs2] at hc
  have HCc0 := hid (show FC (fun z => z = m.ln) m.nb m.L.length (lenR a 0 + lenR b 0) c0 2 from hc); have HMw2 := hid hw
  clear hc hw hs2 HCA y0' y1 y2 y3 y4 y5 y6 y7
  have hq : (m.L ++ c0 : List J).length = m.L.length + (lenR a 0 + lenR b 0) := by rw [List.length_append, HCc0.out.1]
  have HN2 := hid hq
  clear hq
  have HP := hid (put0 HMw2.out 17 0 0 ⟨#[]⟩ (by rw [HN2.out]; have := HL.out; have := HLE.out; omega))
  go_wp2_with fail
  refine HP.out.mono ?_
  rintro e w3 ⟨rfl, hw⟩
  have HMw3 := hid hw
  clear hw HP
  have hq : (m.L ++ c0 ++ [(J.mk 17 (0) (0) ⟨#[]⟩ m.ln)] : List J).length = m.L.length + (lenR a 0 + lenR b 0 + 1) := by rw [List.length_append, HN2.out]; simp only [List.length_cons, List.length_nil]; omega
  have HN3 := hid hq
  clear hq
  have HIT := hid (fun (v : Value) (hv : NL D W r v) => items_of N HIH.out r (by have := HCN.out; omega) (by have := HCN.out; omega) HRR.out D W w1 w3 v X C sv _ hv HMw3.out (by (try dsimp only); rw [HN3.out]; have := HL.out; have := HLE.out; omega))
  go_wp2_with fail
  ·refine (HIT.out _ (HND.out.1 (by omega))).mono ?_
   rintro e w4 ⟨rfl, c1, hc, hw⟩
   try dsimp only at hc hw
   rw [HN3.out] at hc
   have HCc1 := hid hc; have HMw4 := hid hw
   clear hc hw HIT
   have hq : (m.L ++ c0 ++ [(J.mk 17 (0) (0) ⟨#[]⟩ m.ln)] ++ c1 : List J).length = m.L.length + (lenR a 0 + lenR b 0 + 1 + (sumR 1 r + 2)) := by rw [List.length_append, HN3.out, HCc1.out.1]; omega
   have HN4 := hid hq
   clear hq
   have HP := hid (put0 HMw4.out 18 0 0 ⟨#[]⟩ (by rw [HN4.out]; have := HL.out; have := HLE.out; omega))
   go_wp2_with fail
   refine HP.out.mono ?_
   rintro e w5 ⟨rfl, hw⟩
   have HWF := hid hw
   clear hw HP
   go_wp2_with fail
   go_end0
   refine ⟨rfl, c0 ++ [⟨17, 0, 0, ⟨#[]⟩, m.ln⟩] ++ c1 ++ [⟨18, 0, 0, ⟨#[]⟩, m.ln⟩], ?_, (HM0.out.since HWF.out).cast (by simp only [List.append_assoc])⟩
   have h1 := HCc0.out.put (j := (J.mk 17 (0) (0) ⟨#[]⟩ m.ln)) 2 2 (fun m => by simp [goesJ]) (by simp) (fun e => by simp at e) (by simp [ndT]) (by simp [ndG]) (by simp [ndTB, ndGB]) (by omega) (by omega) rfl (d' := 2) (by omega)
   rw [HLE.out]
   exact (h1.cat HCc1.out).put 3 1 (fun m => by simp [goesJ]) (by simp) (fun e => by simp at e) (by simp [ndT]) (by simp [ndG]) (by simp [ndTB, ndGB]) (by omega) (by omega) rfl (d' := 1) (by omega)
  ·refine (HIT.out _ HND.out.2).mono ?_
   rintro e w4 ⟨rfl, c1, hc, hw⟩
   try dsimp only at hc hw
   rw [HN3.out] at hc
   have HCc1 := hid hc; have HMw4 := hid hw
   clear hc hw HIT
   have hq : (m.L ++ c0 ++ [(J.mk 17 (0) (0) ⟨#[]⟩ m.ln)] ++ c1 : List J).length = m.L.length + (lenR a 0 + lenR b 0 + 1 + (sumR 1 r + 2)) := by rw [List.length_append, HN3.out, HCc1.out.1]; omega
   have HN4 := hid hq
   clear hq
   have HP := hid (put0 HMw4.out 18 0 0 ⟨#[]⟩ (by rw [HN4.out]; have := HL.out; have := HLE.out; omega))
   go_wp2_with fail
   refine HP.out.mono ?_
   rintro e w5 ⟨rfl, hw⟩
   have HWF := hid hw
   clear hw HP
   go_wp2_with fail
   go_end0
   refine ⟨rfl, c0 ++ [⟨17, 0, 0, ⟨#[]⟩, m.ln⟩] ++ c1 ++ [⟨18, 0, 0, ⟨#[]⟩, m.ln⟩], ?_, (HM0.out.since HWF.out).cast (by simp only [List.append_assoc])⟩
   have h1 := HCc0.out.put (j := (J.mk 17 (0) (0) ⟨#[]⟩ m.ln)) 2 2 (fun m => by simp [goesJ]) (by simp) (fun e => by simp at e) (by simp [ndT]) (by simp [ndG]) (by simp [ndTB, ndGB]) (by omega) (by omega) rfl (d' := 2) (by omega)
   rw [HLE.out]
   exact (h1.cat HCc1.out).put 3 1 (fun m => by simp [goesJ]) (by simp) (fun e => by simp at e) (by simp [ndT]) (by simp [ndG]) (by simp [ndTB, ndGB]) (by omega) (by omega) rfl (d' := 1) (by omega)
 ·have HOP := hid hop
  have y0' : w1.cell? ⟨B3, 0, none⟩ = some (.int .i64 24) := by rw [← hop]; exact y0
  clear y0 hop
  obtain ⟨hal, hle⟩ := HRT.out.makes rfl (.inl HOP.out)
  rw [if_pos HOP.out] at hle
  have HLE := hid hle
  have HIT := hid (items_of N HIH.out x.l (by have := HB.out; omega) (by have := HB.out; omega) hal D W w1 _ _ X C sv _ HNL.out HM1.out (by have := HL.out; omega))
  clear hal hle
  go_wp2_with fail
  refine HIT.out.mono ?_
  rintro e w2 ⟨rfl, c0, hc, hw⟩
  have HCc0 := hid hc; have HWF := hid hw
  clear hc hw HIT y0' y1 y2 y3 y4 y5 y6 y7
  obtain ⟨y0, y1, y2, y3, y4, y5, y6, y7⟩ := HK0.out w2 HWF.out.kp
  have HP := hid (put0 HWF.out 19 0 0 x.s (by rw [List.length_append, HCc0.out.1]; have := HL.out; have := HLE.out; omega))
  go_wp2_with fail
  refine HP.out.mono ?_
  rintro e w3 ⟨rfl, hw⟩
  have HWG := hid hw
  clear hw HP y0 y1 y2 y3 y4 y5 y6 y7
  go_wp2_with fail
  go_end0
  refine ⟨rfl, c0 ++ [⟨19, 0, 0, x.s, m.ln⟩], ?_, (HM0.out.since HWG.out).cast (by simp only [List.append_assoc])⟩
  rw [HLE.out]
  exact HCc0.out.put 1 1 (fun m => by simp [goesJ]) (by simp) (fun e => by simp at e) (by simp [ndT]) (by simp [ndG]) (by simp [ndTB, ndGB]) (by omega) (by omega) rfl (d' := 1) (by omega)
 ·have HOP := hid hop
  have y0' : w1.cell? ⟨B3, 0, none⟩ = some (.int .i64 25) := by rw [← hop]; exact y0
  clear y0 hop
  obtain ⟨hal, hle⟩ := HRT.out.makes rfl (.inr HOP.out)
  rw [if_neg (by rw [HOP.out]; decide)] at hle
  have HLE := hid hle
  have HIT := hid (items_of N HIH.out x.l (by have := HB.out; omega) (by have := HB.out; omega) hal D W w1 _ _ X C sv _ HNL.out HM1.out (by have := HL.out; omega))
  clear hal hle
  go_wp2_with fail
  refine HIT.out.mono ?_
  rintro e w2 ⟨rfl, c0, hc, hw⟩
  have HCc0 := hid hc; have HWF := hid hw
  clear hc hw HIT y0' y1 y2 y3 y4 y5 y6 y7
  go_wp2_with fail
  go_end0
  refine ⟨rfl, c0, ?_, (HM0.out.since HWF.out).cast rfl⟩
  rw [HLE.out]
  exact HCc0.out
 ·have HOP := hid hop
  have y0' : w1.cell? ⟨B3, 0, none⟩ = some (.int .i64 27) := by rw [← hop]; exact y0
  clear y0 hop
  obtain ⟨a, b, hxl, hra, hrb, hle⟩ := HRT.out.setr HOP.out
  have HXL := hid hxl; have HLE := hid hle
  have hnl := HNL.out
  obtain ⟨b0, o0, ava, avc, al, alc, e0, -, hva, a0, a1, a2, a3, a4, a5, a6, a7⟩ := HNL.out.at (k := 0) (y := a) (by rw [HXL.out]; rfl)
  subst e0
  obtain ⟨b1, o1, bva, bvc, bl, blc, e1, -, hvb, b0, b1, b2, b3, b4, b5, b6, b7⟩ := HNL.out.at (k := 1) (y := b) (by rw [HXL.out]; rfl)
  simp only [Option.some.injEq, Addr.mk.injEq] at e1
  obtain ⟨rfl, rfl, -⟩ := e1
  simp only [Nat.zero_mul, Nat.add_zero, Nat.one_mul, Nat.reduceMul] at a0 a1 a2 a3 a4 a5 a6 a7 b0 b1 b2 b3 b4 b5 b6 b7
  have HCa := hid (And.intro (And.intro a0 a1) (And.intro (And.intro a2 a3) (And.intro (And.intro a4 a5) (And.intro a6 a7)))); have HVa := hid hva; have HRa := hid hra
  have HCb := hid (And.intro (And.intro b0 b1) (And.intro (And.intro b2 b3) (And.intro (And.intro b4 b5) (And.intro b6 b7)))); have HVb := hid hvb; have HRb := hid hrb
  have hcc : a.cnt < N ∧ a.sz ≤ 1048576 ∧ b.cnt < N ∧ b.sz ≤ 1048576 := by
   have h := HB.out
   rw [HXL.out] at h
   simp only [cntL, szL] at h
   omega
  have HCC := hid hcc
  have hln : x.l.length = 2 := by rw [HXL.out]; rfl
  have HLN := hid hln
  rw [hln] at y7
  rw [hln]
  clear hcc hln hnl hxl hle a0 a1 a2 a3 a4 a5 a6 a7 b0 b1 b2 b3 b4 b5 b6 b7 hva hra hvb hrb
  have HST := hid (set_of N HIH.out a b (by have h := HB.out; rw [HXL.out] at h; simp only [cntL] at h; omega) (by have h := HB.out; rw [HXL.out] at h; simp only [szL] at h; omega) HRa.out HRb.out D W w1)
  go_upto_region 50 with fail
  refine wp_region_ord [(0, 0), (1, 0), (2, 0), (3, 0), (4, 0), (5, 0), (6, 0), (7, 1)] (fun w' => Fr (fun _ => False) W w') (by kernel_rfl) (by kernel_rfl) (by kernel_rfl) rfl (fun _ _ d _ _ h => by cases d <;> exact h) HM1.out.f.drew ?_
  iterate 3 (refine wpO_take ?_ rfl (by kernel_rfl) ?_ ?_; rotate_left; (· intro w' hS; go_simp; try with_reducible rfl); try simp only [Act.put, List.setIfInBounds_toArray, List.set_cons_zero, List.set_cons_succ])
  (refine wpO_take ?_ rfl (by kernel_rfl) ?_ ?_; rotate_left; (· intro w' hS; obtain ⟨⟨q0, q1⟩, ⟨q2, q3⟩, ⟨q4, q5⟩, q6, q7⟩ := HCa.out; replace q0 := hS.cell q0 not_false; replace q1 := hS.cell q1 not_false; replace q2 := hS.cell q2 not_false; replace q3 := hS.cell q3 not_false; replace q4 := hS.cell q4 not_false; replace q5 := hS.cell q5 not_false; replace q6 := hS.cell q6 not_false; replace q7 := hS.cell q7 not_false; go_simp; try with_reducible rfl); try simp only [Act.put, List.setIfInBounds_toArray, List.set_cons_zero, List.set_cons_succ])
  iterate 2 (refine wpO_take ?_ rfl (by kernel_rfl) ?_ ?_; rotate_left; (· intro w' hS; go_simp; try with_reducible rfl); try simp only [Act.put, List.setIfInBounds_toArray, List.set_cons_zero, List.set_cons_succ])
  (refine wpO_take ?_ rfl (by kernel_rfl) ?_ ?_; rotate_left; (· intro w' hS; obtain ⟨⟨q0, q1⟩, ⟨q2, q3⟩, ⟨q4, q5⟩, q6, q7⟩ := HCb.out; replace q0 := hS.cell q0 not_false; replace q1 := hS.cell q1 not_false; replace q2 := hS.cell q2 not_false; replace q3 := hS.cell q3 not_false; replace q4 := hS.cell q4 not_false; replace q5 := hS.cell q5 not_false; replace q6 := hS.cell q6 not_false; replace q7 := hS.cell q7 not_false; go_simp; try with_reducible rfl); try simp only [Act.put, List.setIfInBounds_toArray, List.set_cons_zero, List.set_cons_succ])
  have HSC := hid (HST.out w1.drew _ _ X C sv m HVa.out HVb.out (HM1.out.fr (Fr.refl _ _).drew) (by have := HL.out; have := HLE.out; omega))
  refine wpO_run rfl (by kernel_rfl) (fun K hK => ?_); go_simp
  refine HSC.out.mono ?_
  rintro e w2 ⟨rfl, c0, hc, hw⟩
  refine hK _ _ (fun _ => hw.f) ?_
  clear hK K
  try simp only [Act.put, List.setIfInBounds_toArray, List.set_cons_zero, List.set_cons_succ]
  refine wpO_end ?_
  have HCc0 := hid hc; have HWF := hid hw
  clear hc hw HSC HST y0' y1 y2 y3 y4 y5 y6 y7
  go_wp2_with fail
  go_end0
  refine ⟨rfl, c0, ?_, (HM0.out.since HWF.out).cast rfl⟩
  rw [HLE.out]
  exact HCc0.out
 ·have HOP := hid hop
  have y0' : w1.cell? ⟨B3, 0, none⟩ = some (.int .i64 28) := by rw [← hop]; exact y0
  clear y0 hop
  obtain ⟨q, e, hxl, hq1, hre, hq, hle⟩ := HRT.out.scatr HOP.out
  have HLE := hid hle
  have HSC := hid (scatter_of N HIH.out q e (by rw [← hxl]; have := HB.out; omega) (by rw [← hxl]; have := HB.out; omega) hre hq hq1 D W w1 _ _ X C sv _ (by rw [← hxl]; exact HNL.out) HM1.out (by have := HL.out; omega))
  clear hxl hq1 hre hq hle
  go_wp2_with fail
  refine HSC.out.mono ?_
  rintro e2 w2 ⟨rfl, c0, hc, hw⟩
  have HCc0 := hid hc; have HWF := hid hw
  clear hc hw HSC y0' y1 y2 y3 y4 y5 y6 y7
  go_wp2_with fail
  go_end0
  refine ⟨rfl, c0, ?_, (HM0.out.since HWF.out).cast rfl⟩
  rw [HLE.out]
  exact HCc0.out
 ·have HOP := hid hop
  have y0' : w1.cell? ⟨B3, 0, none⟩ = some (.int .i64 29) := by rw [← hop]; exact y0
  clear y0 hop
  obtain ⟨a, b, r, hxl, hr1, hra, hrb, hrr, hle⟩ := HRT.out.catchr HOP.out
  have HLE := hid hle
  have HSC := hid (catch_of N HIH.out a b r (by rw [← hxl]; have := HB.out; omega) (by rw [← hxl]; have := HB.out; omega) hra hrb hr1 hrr D W w1 _ _ X C sv _ (by rw [← hxl]; exact HNL.out) HM1.out (by have := HL.out; omega))
  clear hxl hr1 hra hrb hrr hle
  go_wp2_with fail
  refine HSC.out.mono ?_
  rintro e2 w2 ⟨rfl, c0, hc, hw⟩
  have HCc0 := hid hc; have HWF := hid hw
  clear hc hw HSC y0' y1 y2 y3 y4 y5 y6 y7
  go_wp2_with fail
  go_end0
  refine ⟨rfl, c0, ?_, (HM0.out.since HWF.out).cast rfl⟩
  rw [HLE.out]
  exact HCc0.out
 ·have HOP := hid hop
  have y0' := y0
  clear y0
  obtain ⟨a, b, hxl, hra, hrb, hle⟩ := HRT.out.two (.inl ⟨hop.1, by omega⟩)
  have HXL := hid hxl; have HLE := hid hle
  have hsm : sumR 0 x.l = lenR x 0 - 1 := by rw [hxl, hle]; simp only [sumR]; omega
  have HSM := hid hsm
  have hln : x.l.length = 2 := by rw [hxl]; rfl
  have HLN := hid hln
  have HCA := hid (all_of N HIH.out x.l (by have := HB.out; omega) (by have := HB.out; omega) (fun z hz => by
   rw [hxl] at hz
   simp only [List.mem_cons, List.not_mem_nil, or_false] at hz
   rcases hz with rfl | rfl
   ·exact hra
   ·exact hrb) D W w1 _ _ X C sv _ HNL.out.nv HM1.out (by rw [hsm]; have := HL.out; omega))
  rw [hln] at HCA
  rw [hln] at y7
  rw [hln]
  clear hsm hln hxl hle hra hrb
  obtain ⟨op, hopx⟩ : ∃ op, x.op = op := ⟨_, rfl⟩
  have HK := hid (fun (w5 : World) (h : NKept w1 w5) => show w5.cell? ⟨B3, 0, none⟩ = some (.int .i64 op) by rw [← hopx]; exact (HK0.out w5 h).1)
  have HOPR := hid (show 5 ≤ op ∧ op ≤ 16 by rw [← hopx]; exact hop)
  rw [hopx] at y0'
  clear hopx HK0 HOP0 hop HOP
  have e1 : (op == 1) = false := by have := HOPR.out; rw [beq_eq_false_iff_ne]; omega
  have e2 : (op == 2) = false := by have := HOPR.out; rw [beq_eq_false_iff_ne]; omega
  have e3 : (op == 3) = false := by have := HOPR.out; rw [beq_eq_false_iff_ne]; omega
  have e4 : (op == 4) = false := by have := HOPR.out; rw [beq_eq_false_iff_ne]; omega
  have e17 : (op == 17) = false := by have := HOPR.out; rw [beq_eq_false_iff_ne]; omega
  have e18 : (op == 18) = false := by have := HOPR.out; rw [beq_eq_false_iff_ne]; omega
  have e19 : (op == 19) = false := by have := HOPR.out; rw [beq_eq_false_iff_ne]; omega
  have e20 : (op == 20) = false := by have := HOPR.out; rw [beq_eq_false_iff_ne]; omega
  have e21 : (op == 21) = false := by have := HOPR.out; rw [beq_eq_false_iff_ne]; omega
  have e22 : (op == 22) = false := by have := HOPR.out; rw [beq_eq_false_iff_ne]; omega
  have e23 : (op == 23) = false := by have := HOPR.out; rw [beq_eq_false_iff_ne]; omega
  have e24 : (op == 24) = false := by have := HOPR.out; rw [beq_eq_false_iff_ne]; omega
  have e25 : (op == 25) = false := by have := HOPR.out; rw [beq_eq_false_iff_ne]; omega
  have e27 : (op == 27) = false := by have := HOPR.out; rw [beq_eq_false_iff_ne]; omega
  have e28 : (op == 28) = false := by have := HOPR.out; rw [beq_eq_false_iff_ne]; omega
  have e29 : (op == 29) = false := by have := HOPR.out; rw [beq_eq_false_iff_ne]; omega
  go_wp2_with fail
  refine HCA.out.mono ?_
  rintro e w2 ⟨rfl, c0, hc, hw⟩
  rw [HSM.out] at hc
  have HCc0 := hid hc; have HMw2 := hid hw
  clear hc hw HCA y0' y1 y2 y3 y4 y5 y6 y7
  have hq : (m.L ++ c0 : List J).length = m.L.length + (lenR x 0 - 1) := by rw [List.length_append, HCc0.out.1]
  have HP := hid (put0 HMw2.out 5 op 0 ⟨#[]⟩ (by rw [hq]; have := HL.out; omega))
  clear hq
  have z0 := HK.out w2 HMw2.out.kp
  go_wp2_with fail
  refine HP.out.mono ?_
  rintro e w3 ⟨rfl, hw⟩
  have HWF := hid hw
  clear hw HP z0
  go_wp2_with fail
  go_end0
  refine ⟨rfl, c0 ++ [⟨5, op, 0, ⟨#[]⟩, m.ln⟩], ?_, (HM0.out.since HWF.out).cast (by simp only [List.append_assoc])⟩
  have h1 := HCc0.out
  rw [show lenR x 0 = (lenR x 0 - 1) + 1 by have := HLE.out; omega]
  exact h1.put 2 1 (fun m => by simp [goesJ]) (by simp) (fun e => by simp at e) (by simp [ndT]) (by simp [ndG]) (by simp [ndTB, ndGB]) (by omega) (by omega) rfl (d' := 1) (by omega)
end
section
open Go.RowKit
variable {W V w w' : World} {X C : Nat} {sv : Value} {m : MS}
theorem expr_to : ∀ N, ExprTo N
 | 0 => fun x hx => absurd hx (Nat.not_lt_zero _)
 | N + 1 => expr_of N (expr_to N)
def LnOf (l : List Nd) (z : Int) : Prop := ∃ y ∈ walkL l, y.ln = z
def SPost (W V : World) (X C : Nat) (sv : Value) (m : MS) (PL : Int → Prop) (k : Nat) (e : Ending) (w' : World) : Prop :=
 e = .returned (.tuple #[]) ∧ ∃ c nb, (m.nb ≤ nb ∧ nb ≤ m.nb + k) ∧ FC PL nb m.L.length k c 0 ∧ MW W V w' X C sv ⟨m.L ++ c, nb, m.ln⟩
def BlockTo (N : Nat) : Prop := ∀ (l : List Nd), cntL l < N → szL l ≤ 1048576 → (∀ y ∈ l, Rt 7 y) → ∀ (D : Nat → Prop) (W V w : World) (v : Value) (X C : Nat) (sv : Value) (m : MS), NL D W l v → MW W V w X C sv m → m.L.length + sumR 7 l ≤ 1073741824 → m.nb + sumR 7 l ≤ 1073741824 →
 Calls Tryz.prog 50 #[.pointer (some ⟨X, 0, none⟩), v] w (SPost W V X C sv m (LnOf l) (sumR 7 l))
def StmtTo (N : Nat) : Prop := ∀ (x : Nd), x.cnt < N → x.sz ≤ 1048576 → Rt 7 x → ∀ (D : Nat → Prop) (W V w : World) (u : Array Value) (X C : Nat) (sv : Value) (m : MS), NIn D W x u → MW W V w X C sv m → m.L.length + (lenR x 7 - 1) ≤ 1073741824 → m.nb + (lenR x 7 - 1) ≤ 1073741824 →
 Calls Tryz.prog 82 #[.pointer (some ⟨X, 0, none⟩), .agg u] w (SPost W V X C sv m (fun z => z = m.ln ∨ LnOf x.l z) (lenR x 7 - 1))
theorem MW.setLn (h : MW W V w X C sv m) (t : Int) : MW W V (w.setCell ⟨X, 1, none⟩ (.int .i64 t)) X C sv ⟨m.L, m.nb, t⟩ ∧ w.frozen? ⟨X, 1, none⟩ = false := by
 obtain ⟨lv, nv, bv, xs, zs, hc, ho1, hins, ho2, ho3⟩ := h.hC
 have hs : Fr (fun q => q = X) w (w.setCell ⟨X, 1, none⟩ (.int .i64 t)) := Fr.setCell (S := fun q => q = X) (Fr.refl _ _) (p := ⟨X, 1, none⟩) (.inl rfl) _
 have hx := setCell_row 1 (.int .i64 t) h.hX
 simp only [List.setIfInBounds_toArray, List.set_cons_zero, List.set_cons_succ] at hx
 have hCX : ¬ C = X := fun e => by
  have h1 := h.hX
  rw [← e, hc] at h1
  simp only [Option.some.injEq, Obj.cells.injEq] at h1
  exact absurd h1.2.1 (by decide)
 have hlo := h.lo.1
 refine ⟨⟨h.f.trans (U := fun _ => False) hs (fun _ _ h => h) (fun k hk e => by omega), h.kp.step hs (node_ne_cells h.hX (by decide)), h.ik.step hs (fun k cs fz e _ => int_ne_cells h.hX (by decide) k cs fz e) (fun k hk hn => hn.same (by rw [hs.heap hc hCX, hc])), h.lo, hx, lv, nv, bv, xs, zs, hs.heap hc hCX, hs.own ho1 (own_ne_cells ho1 h.hX (by decide)), hins, hs.own ho2 (own_ne_cells ho2 h.hX (by decide)), hs.own ho3 (own_ne_cells ho3 h.hX (by decide))⟩, frozen_of_row _ _ _ _ _ h.hX⟩
theorem LnOf.mono {l l' : List Nd} (h : ∀ y ∈ walkL l, y ∈ walkL l') {z : Int} (hz : LnOf l z) : LnOf l' z := by
 obtain ⟨y, hy, e⟩ := hz
 exact ⟨y, h y hy, e⟩
theorem walkL_at {l : List Nd} {k : Nat} {y : Nd} (h : l[k]? = some y) : y ∈ walkL l ∧ ∀ z ∈ walkL y.l, z ∈ walkL l := by
 have h1 := walkL_take h
 have h2 : walkL l = walkL (l.take (k + 1)) ++ walkL (l.drop (k + 1)) := by rw [← walkL_append, List.take_append_drop]
 rw [h1] at h2
 constructor
 ·rw [h2]; simp
 ·intro z hz
  rw [h2]
  simp [hz]
theorem FC.one0 {PL : Int → Prop} {nb n : Nat} {j : J} (hg : ∀ k : Nat, goesJ j k = [(k : Int) + 1]) (h8 : j.op ≠ 8 ∧ j.op ≠ 9) (h45 : j.op ≠ 45) (ht : ndT j.op j.a (decide (j.s = ⟨#[]⟩)) = 0) (hG : ndG j.op = 0) (hB : ndTB j.op = 0 ∧ ndGB j.op = 0) (hl : PL j.ln) : FC PL nb n 1 [j] 0 :=
 (FC.nil (PL := PL) (nb := nb) (n := n)).put (j := j) 0 0 hg h8 (fun e => absurd e h45) ht hG hB (by omega) (by omega) hl (d' := 0) (by omega)
set_option maxRecDepth 100000 in
set_option maxHeartbeats 6400000 in
theorem block_of (N : Nat) (ih : StmtTo N) : BlockTo N := by
 intro l hl hM hrt D W V w v X C sv m hv hm hL hB
 have hcs := cntL_szL l
 have hll := len_le_cnt l
 obtain ⟨a, cap, us, rfl, hc, hcm, -⟩ := id hv
 have hlm : l.length ≤ 1048576 := by omega
 have HV := hid hv; have HM := hid hM; have HL := hid hl; have HIH := hid ih; have HR := hid hrt; have HW := hid hm; have HLL := hid (And.intro hL hB)
 clear hv hM hll hl ih hrt hm hL hcs hB
 go_enter Tryz.func50, Tryz.ntmps50
 go_wp2_with fail
 go_loopw [5, 6, 9] (fun _ _ i wr => ∃ (k : Nat) (c : List J) (nb : Nat), k ≤ l.length ∧ i = .int .i64 k ∧ Hid ((m.nb ≤ nb ∧ nb ≤ m.nb + sumR 7 (l.take k)) ∧ FC (LnOf l) nb m.L.length (sumR 7 (l.take k)) c 0) ∧ Hid (MW W V wr X C sv ⟨m.L ++ c, nb, m.ln⟩)) (fun _ _ i _ => l.length - (intOf i).toNat)
 case atStart => exact ⟨0, [], m.nb, Nat.zero_le _, rfl, ⟨⟨Nat.le_refl _, Nat.le_add_right _ _⟩, FC.nil⟩, by rw [List.append_nil]; exact HW.out⟩
 case round =>
  obtain ⟨k, c, nb, hk, rfl, HC, HK⟩ := hrel
  by_cases hlt : k < l.length
  ·obtain ⟨y, hy⟩ : ∃ y, l[k]? = some y := ⟨_, List.getElem?_eq_getElem hlt⟩
   obtain ⟨b, o, yva, c1, a', c', rfl, -, hv, e0, e1, e2, e3, e4, e5, e6, e7⟩ := HV.out.at hy
   have hlt' : (k : Int) < l.length := by omega
   have hf := HK.out.f
   replace e0 := hf.cell e0 not_false
   replace e1 := hf.cell e1 not_false
   replace e2 := hf.cell e2 not_false
   replace e3 := hf.cell e3 not_false
   replace e4 := hf.cell e4 not_false
   replace e5 := hf.cell e5 not_false
   replace e6 := hf.cell e6 not_false
   replace e7 := hf.cell e7 not_false
   have hfY := (Fr.refl (fun _ => False) wr).alloc (.cells #[.int .i64 y.op, .int .i64 y.ln, .string y.s, .int .i64 y.v.k, .int .i64 y.v.n, .string y.v.s, .slice yva y.v.l.length c1, .slice a' y.l.length c'] 75)
   have HGY := hid (heap_alloc_new wr (.cells #[.int .i64 y.op, .int .i64 y.ln, .string y.s, .int .i64 y.v.k, .int .i64 y.v.n, .string y.v.s, .slice yva y.v.l.length c1, .slice a' y.l.length c'] 75))
   have hcl : c.length = sumR 7 (l.take k) := HC.out.2.1
   have hst := sumR_take (ρ := 7) hy
   have hsl := sumR_take_le (ρ := 7) l (k + 1)
   have hcn := cntL_mem hy
   have hsz := szL_mem hy
   have hl7 : 1 ≤ lenR y 7 := by rw [lenR_eq]; unfold cst; simp; omega
   have HKY := hid (HK.out.fr hfY).now; have HKO := hid (HK.out.fr hfY)
   have HST := hid hst; have HCL := hid hcl; have HLT := hid hlt; have HV7 := hid hv; have HY := hid hy
   have HBD := hid (show (m.L ++ c).length + lenR y 7 ≤ 1073741824 ∧ nb + lenR y 7 ≤ 1073741824 ∧ 1 ≤ lenR y 7 by rw [List.length_append, hcl]; have := HLL.out; have := HC.out.1; omega)
   have HCN := hid (show y.cnt < N ∧ y.sz ≤ 1048576 by have := HL.out; have := HM.out; omega)
   have x1 := HKY.out.cells.2
   have x0 := HKY.out.cells.1
   clear hf hfY hst hsl hcn hsz hv hy hcl hlt hl7
   go_upto_region 3 with fail
   generalize wr.alloc (.cells #[.int .i64 y.op, .int .i64 y.ln, .string y.s, .int .i64 y.v.k, .int .i64 y.v.n, .string y.v.s, .slice yva y.v.l.length c1, .slice a' y.l.length c'] 75) = W2 at *
   generalize wr.heap.size = B2 at *
   obtain ⟨y0, y1, y2, y3, y4, y5, y6, y7⟩ := node_cells HGY.out
   clear e0 e1 e2 e3 e4 e5 e6 e7
   obtain ⟨hset, f1⟩ := HKY.out.setLn y.ln
   go_upto_region 5 with fail
   generalize W2.setCell ⟨X, 1, none⟩ (.int .i64 y.ln) = W3 at *
   obtain ⟨z0, z1, z2, z3, z4, z5, z6, z7⟩ := node_cells (hset.kp _ _ _ HGY.out)
   have HP := hid (put0 hset 34 y.ln 0 ⟨#[]⟩ (by dsimp only; have := HBD.out; omega))
   clear y0 y1 y2 y3 y4 y5 y6 y7 x0 x1 f1 hset z0 z2 z3 z4 z5 z6 z7
   go_wp2_with fail
   refine HP.out.mono ?_
   rintro e W4 ⟨rfl, hw⟩
   have HM4 := hid hw
   clear hw HP z1
   have hl4 : (m.L ++ c ++ [(⟨34, y.ln, 0, ⟨#[]⟩, y.ln⟩ : J)]).length = m.L.length + sumR 7 (l.take k) + 1 := by rw [List.length_append, List.length_append, HCL.out]; rfl
   have HL4 := hid hl4
   have HSC := hid (HIH.out y HCN.out.1 HCN.out.2 (HR.out y (List.mem_of_getElem? HY.out)) D W W2 W4 _ X C sv _ HV7.out HM4.out (by (try dsimp only); rw [hl4]; have := HBD.out; rw [List.length_append, HCL.out] at this; omega) (by have := HBD.out; (try dsimp only); omega))
   obtain ⟨z0, z1, z2, z3, z4, z5, z6, z7⟩ := node_cells (HM4.out.kp _ _ _ HGY.out)
   clear hl4
   go_wp2_with fail
   refine HSC.out.mono ?_
   rintro e W5 ⟨rfl, c2, nb2, hnb, hc2, hw⟩
   dsimp only at hnb hc2 hw
   rw [HL4.out] at hc2
   have HC2 := hid (And.intro hnb hc2); have HM5 := hid hw
   obtain ⟨hset, f1⟩ := hw.setLn m.ln
   have x0 := hw.cells.1
   have x1 := hw.cells.2
   clear hnb hc2 hw z0 z1 z2 z3 z4 z5 z6 z7 HSC
   go_wp2_with fail
   generalize W5.setCell ⟨X, 1, none⟩ (.int .i64 m.ln) = W6 at *
   have HM6 := hid (HKO.out.since hset)
   clear hset x0 x1 f1
   go_roundw
   case rel =>
    refine ⟨k + 1, c ++ ([⟨34, y.ln, 0, ⟨#[]⟩, y.ln⟩] ++ c2), nb2, by have := HLT.out; omega, by go_num, ⟨?_, ?_⟩, ?_⟩
    ·have h1 := HC.out.1; have h2 := HC2.out.1; have h3 := HST.out; have h4 := HBD.out.2.2
     omega
    ·obtain ⟨hy1, hy2⟩ := walkL_at HY.out
     have h1 := HC.out.2.mono (QL := LnOf l) (fun _ h => h) HC2.out.1.1
     have h2 := HC2.out.2.mono (QL := LnOf l) (fun z hz => hz.elim (fun e => ⟨y, hy1, e.symm⟩) fun h => h.mono hy2) (Nat.le_refl _)
     have h3 : FC (LnOf l) nb2 (m.L.length + sumR 7 (l.take k)) 1 [⟨34, y.ln, 0, ⟨#[]⟩, y.ln⟩] 0 := FC.one0 (fun k => by simp [goesJ]) (by simp) (by simp) (by simp [ndT]) (by simp [ndG]) (by simp [ndTB, ndGB]) ⟨y, hy1, rfl⟩
     have h4 := h1.cat (h3.cat (show FC _ _ (m.L.length + sumR 7 (l.take k) + 1) _ _ _ from h2))
     rw [show sumR 7 (l.take (k + 1)) = sumR 7 (l.take k) + (1 + (lenR y 7 - 1)) by have h3 := HST.out; have h4 := HBD.out.2.2; omega]
     exact h4
    ·have h2 := HM6.out
     simp only [List.append_assoc] at h2
     exact h2
   case measure => simp [intOf]; have := HLT.out; omega
  ·obtain rfl : k = l.length := by omega
   have hlt' : ¬ (l.length : Int) < l.length := by omega
   have h1 := HC.out; rw [List.take_length] at h1
   have HC1 := hid h1
   clear h1 hlt
   go_wp2_with fail
   go_end0
   exact ⟨rfl, c, nb, HC1.out.1, HC1.out.2, HK.out⟩
end
section
open Go.RowKit
variable {W V w w' : World} {X C : Nat} {sv : Value} {m : MS}
theorem held_any {h o1 o2 : Int} (hh : (h = 1 ∧ o1 = 36 ∧ o2 = 37) ∨ (h = 2 ∧ o1 = 38 ∧ o2 = 39)) (w : World) : Calls Tryz.prog 140 #[.int .i64 o1] w fun e w' => e = .returned (.int .i64 (h + 1)) ∧ w = w' := by
 rcases hh with ⟨rfl, rfl, rfl⟩ | ⟨rfl, rfl, rfl⟩
 ·go_enter Tryz.func140, Tryz.ntmps140
  go_wp2_with fail
  go_ret
  exact ⟨rfl, rfl⟩
 ·go_enter Tryz.func140, Tryz.ntmps140
  go_wp2_with fail
  go_ret
  exact ⟨rfl, rfl⟩
theorem MW.mid {L A B : List J} {j : J} {nb : Nat} {ln : Int} (h : MW W V w X C sv ⟨L, nb, ln⟩) (hL : L = A ++ j :: B) {k : Nat} (hk : k = A.length) : ∃ g cap, w.cell? ⟨C, 0, none⟩ = some (.slice (some ⟨g, 0, none⟩) L.length cap) ∧ w.frozen? ⟨g, k * 8 + 2, none⟩ = false ∧ w.cell? ⟨g, k * 8 + 2, none⟩ = some (.int .i64 j.b) ∧ ∀ t, MW W V (w.setCell ⟨g, k * 8 + 2, none⟩ (.int .i64 t)) X C sv ⟨A ++ ⟨j.op, j.a, t, j.s, j.ln⟩ :: B, nb, ln⟩ := by
 subst hk
 obtain ⟨g, cap, -, c0, -, hfz, -, -, cb, -, hB⟩ := h.row (k := A.length) (j := j) (by dsimp only; rw [hL, List.getElem?_append_right (Nat.le_refl _), Nat.sub_self]; rfl)
 refine ⟨g, cap, c0, hfz _, cb, fun t => (hB t).cast ?_⟩
 dsimp only
 conv => lhs; rw [hL]
 rw [List.set_append_right _ _ (Nat.le_refl _), Nat.sub_self]
 rfl
set_option maxRecDepth 100000 in
set_option maxHeartbeats 6400000 in
theorem loop_of (N : Nat) (ihb : BlockTo N) {h o1 o2 : Int} (hh : (h = 1 ∧ o1 = 36 ∧ o2 = 37) ∨ (h = 2 ∧ o1 = 38 ∧ o2 = 39)) (s : ByteArray) (l : List Nd) (hl : cntL l < N) (hM : szL l ≤ 1048576) (hrt : ∀ y ∈ l, Rt 7 y) (D : Nat → Prop) (v : Value) (hv : NL D W l v) (hm : MW W V w X C sv m) (hL : m.L.length + sumR 7 l + 4 ≤ 1073741824) (hB : m.nb + sumR 7 l ≤ 1073741824) :
  Calls Tryz.prog 115 #[.pointer (some ⟨X, 0, none⟩), .int .i64 o1, .int .i64 o2, .string s, v] w fun e w' => e = .returned (.tuple #[]) ∧ ∃ c nb, (m.nb ≤ nb ∧ nb ≤ m.nb + sumR 7 l) ∧ FC (LnOf l) nb (m.L.length + 2) (sumR 7 l) c 0 ∧
   MW W V w' X C sv ⟨m.L ++ (J.mk o1 ((m.L.length + (sumR 7 l + 3) : Nat) : Int) ((m.L.length + 1 : Nat) : Int) ⟨#[]⟩ m.ln :: J.mk o2 ((m.L.length + (sumR 7 l + 3) : Nat) : Int) 0 s m.ln :: (c ++ [J.mk 6 ((m.L.length + 1 : Nat) : Int) 0 ⟨#[]⟩ m.ln, J.mk 41 (h + 1) 0 ⟨#[]⟩ m.ln])), nb, m.ln⟩ := by
 have HP := hid (put0 (L := m.L) (nb := m.nb) (ln := m.ln) hm o1 0 0 ⟨#[]⟩ (by omega))
 have HBL := hid (ihb l hl hM hrt D W V)
 have HH := hid (held_any (o2 := o2) hh)
 obtain ⟨a, cap, us, rfl, -⟩ := id hv
 have HV := hid hv; have HL := hid (And.intro hL hB)
 clear hh hl hM hrt hv hm hL hB ihb
 go_enter Tryz.func115, Tryz.ntmps115
 go_wp2_with fail
 refine HP.out.mono ?_
 rintro e w1 ⟨rfl, hw⟩
 have hq : (m.L ++ [(J.mk o1 0 0 ⟨#[]⟩ m.ln)] : List J).length = m.L.length + 1 := by rw [List.length_append]; rfl
 have HQ1 := hid hq
 have HP2 := hid (put0 hw o2 0 0 s (by rw [hq]; have := HL.out; omega))
 clear hw HP hq
 go_wp2_with fail
 refine HP2.out.mono ?_
 rintro e w2 ⟨rfl, hw⟩
 rw [HQ1.out]
 have hq : (m.L ++ [(J.mk o1 0 0 ⟨#[]⟩ m.ln)] ++ [(J.mk o2 0 0 s m.ln)] : List J).length = m.L.length + 2 := by rw [List.length_append, HQ1.out]; rfl
 have HQ2 := hid hq
 have HB2 := hid (HBL.out w2 _ X C sv _ HV.out hw (by (try dsimp only); rw [hq]; have := HL.out; omega) (by have := HL.out; (try dsimp only); omega))
 clear hw HP2 hq HBL
 go_wp2_with fail
 refine HB2.out.mono ?_
 rintro e w3 ⟨rfl, c, nb, hnb, hc, hw⟩
 try dsimp only at hnb hc hw
 rw [HQ2.out] at hc
 have HC := hid (And.intro hnb hc)
 have hq : (m.L ++ [(J.mk o1 0 0 ⟨#[]⟩ m.ln)] ++ [(J.mk o2 0 0 s m.ln)] ++ c : List J).length = m.L.length + 2 + sumR 7 l := by rw [List.length_append, HQ2.out, hc.1]
 have HQ3 := hid hq
 have HP := hid (put0 hw 6 ((m.L.length + 1 : Nat) : Int) 0 ⟨#[]⟩ (by rw [hq]; have := HL.out; omega))
 clear hw hnb hc hq HB2
 go_wp2_with fail
 refine HP.out.mono ?_
 rintro e w4 ⟨rfl, hw⟩
 have hq : (m.L ++ [(J.mk o1 0 0 ⟨#[]⟩ m.ln)] ++ [(J.mk o2 0 0 s m.ln)] ++ c ++ [(J.mk 6 ((m.L.length + 1 : Nat) : Int) 0 ⟨#[]⟩ m.ln)] : List J).length = m.L.length + (sumR 7 l + 3) := by rw [List.length_append, HQ3.out]; simp only [List.length_cons, List.length_nil]; omega
 have HQ4 := hid hq
 have HHE := hid (here_mid hw (A := m.L ++ [(J.mk o1 0 0 ⟨#[]⟩ m.ln)]) (j := J.mk o2 0 0 s m.ln) (B := c ++ [(J.mk 6 ((m.L.length + 1 : Nat) : Int) 0 ⟨#[]⟩ m.ln)]) (by simp) (k := m.L.length + 1) (by rw [HQ1.out]) (by rw [hq]; have := HL.out; omega))
 clear hw HP hq
 go_wp2_with fail
 refine HHE.out.mono ?_
 rintro e w5 ⟨rfl, hw⟩
 rw [HQ4.out] at hw
 try dsimp only at hw
 have hq : (m.L ++ [(J.mk o1 0 0 ⟨#[]⟩ m.ln)] ++ (J.mk o2 ((m.L.length + (sumR 7 l + 3) : Nat) : Int) 0 s m.ln) :: (c ++ [(J.mk 6 ((m.L.length + 1 : Nat) : Int) 0 ⟨#[]⟩ m.ln)]) : List J).length = m.L.length + (sumR 7 l + 3) := by rw [← HQ4.out]; simp
 have HQ5 := hid hq
 have HHE2 := hid (here_mid hw (A := m.L) (j := J.mk o1 0 0 ⟨#[]⟩ m.ln) (B := (J.mk o2 ((m.L.length + (sumR 7 l + 3) : Nat) : Int) 0 s m.ln) :: (c ++ [(J.mk 6 ((m.L.length + 1 : Nat) : Int) 0 ⟨#[]⟩ m.ln)])) (by simp) (k := m.L.length) rfl (by rw [hq]; have := HL.out; omega))
 clear hw HHE hq
 go_wp2_with fail
 refine HHE2.out.mono ?_
 rintro e w6 ⟨rfl, hw⟩
 rw [HQ5.out] at hw
 try dsimp only at hw
 have hlen : (m.L ++ (J.mk o1 ((m.L.length + (sumR 7 l + 3) : Nat) : Int) 0 ⟨#[]⟩ m.ln) :: (J.mk o2 ((m.L.length + (sumR 7 l + 3) : Nat) : Int) 0 s m.ln) :: (c ++ [(J.mk 6 ((m.L.length + 1 : Nat) : Int) 0 ⟨#[]⟩ m.ln)]) : List J).length = m.L.length + (sumR 7 l + 3) := by rw [← HQ5.out]; simp
 have HLN := hid hlen
 have x0 := hw.cells.1
 obtain ⟨g, cp, c0, f2, cb, hset⟩ := hw.mid (A := m.L) rfl (k := m.L.length) rfl
 rw [hlen] at c0
 have hidx : ((m.L.length : Nat) : Int) < ((m.L.length + (sumR 7 l + 3) : Nat) : Int) := by omega
 have HS := hid (hset ((m.L.length : Int) + 1))
 clear hset hlen HHE2 hw
 go_wp2_with fail
 generalize w6.setCell ⟨g, m.L.length * 8 + 2, none⟩ (.int .i64 ((m.L.length : Int) + 1)) = w7 at *
 clear x0 c0 f2 cb hidx
 refine (HH.out w7).mono ?_
 rintro e w8 ⟨rfl, rfl⟩
 have hm7 := HS.out
 try dsimp only at hm7
 have hq : (m.L ++ (J.mk o1 ((m.L.length + (sumR 7 l + 3) : Nat) : Int) ((m.L.length : Int) + 1) ⟨#[]⟩ m.ln) :: (J.mk o2 ((m.L.length + (sumR 7 l + 3) : Nat) : Int) 0 s m.ln) :: (c ++ [(J.mk 6 ((m.L.length + 1 : Nat) : Int) 0 ⟨#[]⟩ m.ln)]) : List J).length = m.L.length + (sumR 7 l + 3) := by rw [← HLN.out]; simp
 have HP := hid (put0 hm7 41 (h + 1) 0 ⟨#[]⟩ (by rw [hq]; have := HL.out; omega))
 clear hm7 hq HS
 go_wp2_with fail
 refine HP.out.mono ?_
 rintro e w9 ⟨rfl, hw⟩
 have HW := hid hw
 clear hw HP
 go_wp2_with fail
 go_end0
 refine ⟨rfl, c, nb, HC.out.1, HC.out.2, HW.out.cast ?_⟩
 simp
theorem FC.at {PL : Int → Prop} {nb n n' k k' : Nat} {c : List J} {d : Int} (h : FC PL nb n k c d) (hn : n = n') (hk : k = k') : FC PL nb n' k' c d := by subst hn; subst hk; exact h
set_option maxRecDepth 100000 in
set_option maxHeartbeats 6400000 in
theorem while_of (N : Nat) (ihb : BlockTo N) (a : Nd) (l : List Nd) (hl : cntL l < N) (ha : a.sz ≤ 1048576) (hM : szL l ≤ 1048576) (hra : Rt 0 a) (hrt : ∀ y ∈ l, Rt 7 y) (D : Nat → Prop) (u : Array Value) (v : Value) (hu : NIn D W a u) (hv : NL D W l v) (hm : MW W V w X C sv m) (hL : m.L.length + lenR a 0 + sumR 7 l + 5 ≤ 1073741824) (hB : m.nb + sumR 7 l ≤ 1073741824) :
  Calls Tryz.prog 116 #[.pointer (some ⟨X, 0, none⟩), .agg u, v] w fun e w' => e = .returned (.tuple #[]) ∧ ∃ c0 c nb, (m.nb ≤ nb ∧ nb ≤ m.nb + sumR 7 l) ∧ FC (fun z => z = m.ln) m.nb (m.L.length + 1) (lenR a 0) c0 1 ∧ FC (LnOf l) nb (m.L.length + (lenR a 0 + 3)) (sumR 7 l) c 0 ∧
   MW W V w' X C sv ⟨m.L ++ (J.mk 40 ((m.L.length + (lenR a 0 + 3 + sumR 7 l + 1) : Nat) : Int) ((m.L.length + 1 : Nat) : Int) ⟨#[]⟩ m.ln :: (c0 ++ J.mk 7 ((m.L.length + (lenR a 0 + 3 + sumR 7 l + 1) : Nat) : Int) 0 ⟨#[]⟩ m.ln :: J.mk 35 0 0 ⟨#[]⟩ m.ln :: (c ++ [J.mk 6 ((m.L.length + 1 : Nat) : Int) 0 ⟨#[]⟩ m.ln, J.mk 41 0 0 ⟨#[]⟩ m.ln]))), nb, m.ln⟩ := by
 obtain ⟨va9, v9, rfl, hvl, hnl⟩ := hu.open
 obtain ⟨xa, xc, xu, rfl, -⟩ := id hvl
 obtain ⟨la, lc, us, rfl, -⟩ := id hnl
 have hF := (Fr.refl (fun _ => False) w).alloc (.cells #[.int .i64 a.op, .int .i64 a.ln, .string a.s, .int .i64 a.v.k, .int .i64 a.v.n, .string a.v.s, .slice xa a.v.l.length xc, .slice la a.l.length lc] 75)
 have HG := hid (heap_alloc_new w (.cells #[.int .i64 a.op, .int .i64 a.ln, .string a.s, .int .i64 a.v.k, .int .i64 a.v.n, .string a.v.s, .slice xa a.v.l.length xc, .slice la a.l.length lc] 75))
 have HM0 := hid (hm.fr hF)
 have HVA := hid hu; have HRA := hid (And.intro hra ha)
 have HBL := hid (ihb l hl hM hrt D W)
 obtain ⟨ia, cap, us2, rfl, -⟩ := id hv
 have HV := hid hv; have HL := hid (And.intro hL hB)
 clear hl hM hrt hv hm hL hB ihb hu hvl hnl hF hra ha
 go_enter Tryz.func116, Tryz.ntmps116
 go_upto_region 1 with fail
 generalize w.alloc (.cells #[.int .i64 a.op, .int .i64 a.ln, .string a.s, .int .i64 a.v.k, .int .i64 a.v.n, .string a.v.s, .slice xa a.v.l.length xc, .slice la a.l.length lc] 75) = w0 at *
 generalize w.heap.size = B4 at *
 have HP := hid (put0 (L := m.L) (nb := m.nb) (ln := m.ln) HM0.out.now 40 0 0 ⟨#[]⟩ (by have := HL.out; omega))
 go_wp2_with fail
 refine HP.out.mono ?_
 rintro e w1 ⟨rfl, hw⟩
 have hq : (m.L ++ [(J.mk 40 0 0 ⟨#[]⟩ m.ln)] : List J).length = m.L.length + 1 := by rw [List.length_append]; rfl
 have HQ1 := hid hq
 have x0 := hw.cells.1
 obtain ⟨g, cp, -, c0, -⟩ := hw.row (k := m.L.length) (j := J.mk 40 0 0 ⟨#[]⟩ m.ln) (by simp)
 rw [hq] at c0
 obtain ⟨y0, y1, y2, y3, y4, y5, y6, y7⟩ := node_cells (hw.kp _ _ _ HG.out)
 have HCE := hid (expr_to (a.cnt + 1) a (Nat.lt_succ_self _) HRA.out.2 HRA.out.1 D W w0 w1 _ X C sv _ HVA.out hw (by (try dsimp only); rw [hq]; have := HL.out; omega))
 have hw8 : IntKind.i64.wrap ((m.L.length + 1 : Nat) : Int) = ((m.L.length + 1 : Nat) : Int) := IntWalk.i64_in _ (by have := HL.out; omega)
 clear hw HP hq
 go_wp2_with fail
 refine HCE.out.mono ?_
 rintro e w2 ⟨rfl, c1, hc, hw⟩
 try dsimp only at hc hw
 rw [HQ1.out] at hc
 have HC0 := hid hc
 have hq : (m.L ++ [(J.mk 40 0 0 ⟨#[]⟩ m.ln)] ++ c1 : List J).length = m.L.length + 1 + lenR a 0 := by rw [List.length_append, HQ1.out, hc.1]
 have HQ2 := hid hq
 have HP := hid (put0 hw 7 0 0 ⟨#[]⟩ (by rw [hq]; have := HL.out; omega))
 clear hw hc hq HCE x0 c0 y0 y1 y2 y3 y4 y5 y6 y7 hw8
 go_wp2_with fail
 refine HP.out.mono ?_
 rintro e w3 ⟨rfl, hw⟩
 rw [HQ2.out]
 have hq : (m.L ++ [(J.mk 40 0 0 ⟨#[]⟩ m.ln)] ++ c1 ++ [(J.mk 7 0 0 ⟨#[]⟩ m.ln)] : List J).length = m.L.length + (lenR a 0 + 2) := by rw [List.length_append, HQ2.out]; simp only [List.length_cons, List.length_nil]; omega
 have HQ3 := hid hq
 have HP := hid (put0 hw 35 0 0 ⟨#[]⟩ (by rw [hq]; have := HL.out; omega))
 clear hw hq
 go_wp2_with fail
 refine HP.out.mono ?_
 rintro e w4 ⟨rfl, hw⟩
 have hq : (m.L ++ [(J.mk 40 0 0 ⟨#[]⟩ m.ln)] ++ c1 ++ [(J.mk 7 0 0 ⟨#[]⟩ m.ln)] ++ [(J.mk 35 0 0 ⟨#[]⟩ m.ln)] : List J).length = m.L.length + (lenR a 0 + 3) := by rw [List.length_append, HQ3.out]; simp only [List.length_cons, List.length_nil]; omega
 have HQ4 := hid hq
 have HB2 := hid (HBL.out w0 w4 _ X C sv _ HV.out hw (by (try dsimp only); rw [hq]; have := HL.out; omega) (by have := HL.out; (try dsimp only); omega))
 clear hw hq HBL HP
 go_wp2_with fail
 refine HB2.out.mono ?_
 rintro e w5 ⟨rfl, c, nb, hnb, hc, hw⟩
 try dsimp only at hnb hc hw
 rw [HQ4.out] at hc
 have HC := hid (And.intro hnb hc)
 have hq : (m.L ++ [(J.mk 40 0 0 ⟨#[]⟩ m.ln)] ++ c1 ++ [(J.mk 7 0 0 ⟨#[]⟩ m.ln)] ++ [(J.mk 35 0 0 ⟨#[]⟩ m.ln)] ++ c : List J).length = m.L.length + (lenR a 0 + 3) + sumR 7 l := by rw [List.length_append, HQ4.out, hc.1]
 have HQ5 := hid hq
 have HP := hid (put0 hw 6 ((m.L.length + 1 : Nat) : Int) 0 ⟨#[]⟩ (by rw [hq]; have := HL.out; omega))
 clear hw hnb hc hq HB2
 go_wp2_with fail
 refine HP.out.mono ?_
 rintro e w6 ⟨rfl, hw⟩
 have hq : (m.L ++ [(J.mk 40 0 0 ⟨#[]⟩ m.ln)] ++ c1 ++ [(J.mk 7 0 0 ⟨#[]⟩ m.ln)] ++ [(J.mk 35 0 0 ⟨#[]⟩ m.ln)] ++ c ++ [(J.mk 6 ((m.L.length + 1 : Nat) : Int) 0 ⟨#[]⟩ m.ln)] : List J).length = m.L.length + (lenR a 0 + 3 + sumR 7 l + 1) := by rw [List.length_append, HQ5.out]; simp only [List.length_cons, List.length_nil]; omega
 have HQ6 := hid hq
 have HHE := hid (here_mid hw (A := m.L ++ [(J.mk 40 0 0 ⟨#[]⟩ m.ln)] ++ c1) (j := J.mk 7 0 0 ⟨#[]⟩ m.ln) (B := J.mk 35 0 0 ⟨#[]⟩ m.ln :: (c ++ [(J.mk 6 ((m.L.length + 1 : Nat) : Int) 0 ⟨#[]⟩ m.ln)])) (by simp) (k := m.L.length + 1 + lenR a 0) (by rw [HQ2.out]) (by rw [hq]; have := HL.out; omega))
 clear hw HP hq
 go_wp2_with fail
 refine HHE.out.mono ?_
 rintro e w7 ⟨rfl, hw⟩
 rw [HQ6.out] at hw
 have hw2 := hw.cast (L' := m.L ++ (J.mk 40 0 0 ⟨#[]⟩ m.ln) :: (c1 ++ J.mk 7 ((m.L.length + (lenR a 0 + 3 + sumR 7 l + 1) : Nat) : Int) 0 ⟨#[]⟩ m.ln :: J.mk 35 0 0 ⟨#[]⟩ m.ln :: (c ++ [(J.mk 6 ((m.L.length + 1 : Nat) : Int) 0 ⟨#[]⟩ m.ln)]))) (by simp)
 have hq : (m.L ++ (J.mk 40 0 0 ⟨#[]⟩ m.ln) :: (c1 ++ J.mk 7 ((m.L.length + (lenR a 0 + 3 + sumR 7 l + 1) : Nat) : Int) 0 ⟨#[]⟩ m.ln :: J.mk 35 0 0 ⟨#[]⟩ m.ln :: (c ++ [(J.mk 6 ((m.L.length + 1 : Nat) : Int) 0 ⟨#[]⟩ m.ln)])) : List J).length = m.L.length + (lenR a 0 + 3 + sumR 7 l + 1) := by rw [← HQ6.out]; simp
 have HQ7 := hid hq
 have HHE2 := hid (here_mid hw2 (A := m.L) (j := J.mk 40 0 0 ⟨#[]⟩ m.ln) rfl (k := m.L.length) rfl (by rw [hq]; have := HL.out; omega))
 clear hw hw2 HHE hq
 go_wp2_with fail
 refine HHE2.out.mono ?_
 rintro e w8 ⟨rfl, hw⟩
 rw [HQ7.out] at hw
 try dsimp only at hw
 have hlen : (m.L ++ (J.mk 40 ((m.L.length + (lenR a 0 + 3 + sumR 7 l + 1) : Nat) : Int) 0 ⟨#[]⟩ m.ln) :: (c1 ++ J.mk 7 ((m.L.length + (lenR a 0 + 3 + sumR 7 l + 1) : Nat) : Int) 0 ⟨#[]⟩ m.ln :: J.mk 35 0 0 ⟨#[]⟩ m.ln :: (c ++ [(J.mk 6 ((m.L.length + 1 : Nat) : Int) 0 ⟨#[]⟩ m.ln)])) : List J).length = m.L.length + (lenR a 0 + 3 + sumR 7 l + 1) := by rw [← HQ7.out]; simp
 have HLN := hid hlen
 have x0 := hw.cells.1
 obtain ⟨g2, cp2, c2, f2, cb, hset⟩ := hw.mid (A := m.L) rfl (k := m.L.length) rfl
 rw [hlen] at c2
 have hidx : ((m.L.length : Nat) : Int) < ((m.L.length + (lenR a 0 + 3 + sumR 7 l + 1) : Nat) : Int) := by omega
 have HS := hid (hset ((m.L.length : Int) + 1))
 clear hset hlen HHE2 hw
 go_upto_region 11 with fail
 generalize w8.setCell ⟨g2, m.L.length * 8 + 2, none⟩ (.int .i64 ((m.L.length : Int) + 1)) = w9 at *
 clear x0 c2 f2 cb hidx
 have hm7 := HS.out
 try dsimp only at hm7
 have hq : (m.L ++ (J.mk 40 ((m.L.length + (lenR a 0 + 3 + sumR 7 l + 1) : Nat) : Int) ((m.L.length : Int) + 1) ⟨#[]⟩ m.ln) :: (c1 ++ J.mk 7 ((m.L.length + (lenR a 0 + 3 + sumR 7 l + 1) : Nat) : Int) 0 ⟨#[]⟩ m.ln :: J.mk 35 0 0 ⟨#[]⟩ m.ln :: (c ++ [(J.mk 6 ((m.L.length + 1 : Nat) : Int) 0 ⟨#[]⟩ m.ln)])) : List J).length = m.L.length + (lenR a 0 + 3 + sumR 7 l + 1) := by rw [← HLN.out]; simp
 have HP := hid (put0 hm7 41 0 0 ⟨#[]⟩ (by rw [hq]; have := HL.out; omega))
 clear hm7 hq HS
 go_wp2_with fail
 refine HP.out.mono ?_
 rintro e w10 ⟨rfl, hw⟩
 have HW := hid hw
 clear hw HP
 go_wp2_with fail
 go_end0
 refine ⟨rfl, c1, c, nb, HC.out.1, HC0.out, HC.out.2, (HM0.out.since HW.out).cast ?_⟩
 simp
end
section
theorem Rt.block6 {x : Nd} (h : Rt 6 x) : (∀ y ∈ x.l, Rt 7 y) ∧ lenR x 6 = sumR 7 x.l := by
 have hk := fun i z => h.kid (i := i) (y := z)
 have hop : x.op = 52 := by simpa [pStands] using h.own.1
 have hR : pRoles x.op x.l.length = List.replicate x.l.length 7 := by rw [hop]; simp [pRoles]
 have hg : ∀ k, k < x.l.length → (List.replicate x.l.length (7 : Int)).getD k 0 = 7 := fun k hk => by rw [List.getD_eq_getElem?_getD, List.getElem?_replicate, if_pos hk]; rfl
 rw [hR] at hk
 refine ⟨fun y hy => ?_, ?_⟩
 ·obtain ⟨i, hi, e⟩ := List.getElem_of_mem hy
  have h2 := hk i y (by rw [List.getElem?_eq_getElem hi, e])
  rw [hg i hi] at h2
  simpa [rW] using h2
 ·rw [lenR_eq, hR, lenRL_const (ρ := 7) (by rw [hop]; decide) x.l 0 fun k hk => by rw [Nat.zero_add, hg k hk]; simp [cRole, rW, hop]]
  simp [cst]
theorem Rt.do {x : Nd} (h : Rt 7 x) (hop : x.op = 40) : ∃ a, x.l = [a] ∧ Rt 0 a ∧ lenR x 7 = lenR a 0 + 2 := by
 have h2 := h.own.2
 have hk := fun i z => h.kid (i := i) (y := z)
 rw [hop] at h2
 obtain ⟨a, hl⟩ := len1 (by simpa [pCounts] using h2)
 rw [hop, hl] at hk
 rw [lenR_eq, hl, hop]
 exact ⟨a, rfl, by simpa [pRoles, rW] using hk 0 a rfl, by simp [lenRL_cons, lenRL_nil, cst, cRole, rW, pRoles]; omega⟩
theorem Rt.round {x : Nd} (h : Rt 7 x) (hop : x.op = 42 ∨ x.op = 44) : ∃ a b, x.l = [a, b] ∧ Rt 0 a ∧ Rt 6 b ∧ lenR x 7 = (if x.op = 42 then 5 else 6) + lenR a 0 + lenR b 6 := by
 have h2 := h.own.2
 have hk := fun i z => h.kid (i := i) (y := z)
 rcases hop with hop | hop
 all_goals
  rw [hop] at h2
  obtain ⟨a, b, hl⟩ := len2 (by simpa [pCounts] using h2)
  rw [hop, hl] at hk
  rw [lenR_eq, hl, hop]
  exact ⟨a, b, rfl, by simpa [pRoles, rW] using hk 0 a rfl, by simpa [pRoles, rW] using hk 1 b rfl, by simp [lenRL_cons, lenRL_nil, cst, cRole, rW, pRoles]; omega⟩
theorem Rt.forto {x : Nd} (h : Rt 7 x) (hop : x.op = 43) : ∃ a b c, x.l = [a, b, c] ∧ Rt 0 a ∧ Rt 0 b ∧ Rt 6 c ∧ lenR x 7 = 5 + lenR a 0 + lenR b 0 + lenR c 6 := by
 have h2 := h.own.2
 have hk := fun i z => h.kid (i := i) (y := z)
 rw [hop] at h2
 obtain ⟨a, b, c, hl⟩ := len3 (by simpa [pCounts] using h2)
 rw [hop, hl] at hk
 rw [lenR_eq, hl, hop]
 exact ⟨a, b, c, rfl, by simpa [pRoles, rW] using hk 0 a rfl, by simpa [pRoles, rW] using hk 1 b rfl, by simpa [pRoles, rW] using hk 2 c rfl, by simp [lenRL_cons, lenRL_nil, cst, cRole, rW, pRoles]; omega⟩
theorem Rt.away {x : Nd} (h : Rt 7 x) (hop : x.op = 45 ∨ x.op = 46) : lenR x 7 = 2 := by
 have h2 := h.own.2
 have hl : x.l = [] := by rcases hop with e | e <;> (rw [e] at h2; simpa [pCounts] using h2)
 rw [lenR_eq, hl, lenRL_nil]
 rcases hop with e | e <;> simp [e, cst]
theorem Rt.ret {x : Nd} (h : Rt 7 x) (hop : x.op = 47) : (x.l = [] ∧ lenR x 7 = 3) ∨ ∃ a, x.l = [a] ∧ Rt 0 a ∧ lenR x 7 = lenR a 0 + 2 := by
 have h2 := h.own.2
 have hk := fun i z => h.kid (i := i) (y := z)
 rw [hop] at h2
 have hlen : x.l.length ≤ 1 := by simpa [pCounts] using h2
 by_cases h0 : x.l.length = 0
 ·have hl : x.l = [] := List.eq_nil_of_length_eq_zero h0
  refine .inl ⟨hl, ?_⟩
  rw [lenR_eq, hl, lenRL_nil, hop]
  simp [cst]
 ·obtain ⟨a, hl⟩ := len1 (l := x.l) (by omega)
  rw [hop, hl] at hk
  refine .inr ⟨a, hl, by simpa [pRoles, rW] using hk 0 a rfl, ?_⟩
  rw [lenR_eq, hl, hop]
  simp [lenRL_cons, lenRL_nil, cst, cRole, rW, pRoles]
  omega
theorem Rt.fork {x : Nd} (h : Rt 7 x) (hop : x.op = 48) : ∃ a b, x.l = [a, b] ∧ Rt 0 a ∧ Rt 6 b ∧ lenR x 7 = 2 + lenR a 0 := by
 have h2 := h.own.2
 have hk := fun i z => h.kid (i := i) (y := z)
 rw [hop] at h2
 obtain ⟨a, b, hl⟩ := len2 (by simpa [pCounts] using h2)
 rw [hop, hl] at hk
 rw [lenR_eq, hl, hop]
 exact ⟨a, b, rfl, by simpa [pRoles, rW] using hk 0 a rfl, by simpa [pRoles, rW] using hk 1 b rfl, by simp [lenRL_cons, lenRL_nil, cst, cRole, rW, pRoles]⟩
theorem Rt.fin {x : Nd} (h : Rt 7 x) (hop : x.op = 51) : ∃ a b, x.l = [a, b] ∧ Rt 6 a ∧ Rt 6 b ∧ lenR x 7 = 5 + lenR a 6 + lenR b 6 := by
 have h2 := h.own.2
 have hk := fun i z => h.kid (i := i) (y := z)
 rw [hop] at h2
 obtain ⟨a, b, hl⟩ := len2 (by simpa [pCounts] using h2)
 rw [hop, hl] at hk
 rw [lenR_eq, hl, hop]
 exact ⟨a, b, rfl, by simpa [pRoles, rW] using hk 0 a rfl, by simpa [pRoles, rW] using hk 1 b rfl, by simp [lenRL_cons, lenRL_nil, cst, cRole, rW, pRoles]; omega⟩
theorem Rt.exc {x : Nd} (h : Rt 8 x) : ∃ c b, x.l = [c, b] ∧ Rt 5 c ∧ Rt 6 b ∧ lenR x 8 = 3 + lenR c 5 + lenR b 6 := by
 have h2 := h.own.2
 have hk := fun i z => h.kid (i := i) (y := z)
 have hop : x.op = 50 := by simpa [pStands] using h.own.1
 rw [hop] at h2
 obtain ⟨a, b, hl⟩ := len2 (by simpa [pCounts] using h2)
 rw [hop, hl] at hk
 rw [lenR_eq, hl, hop]
 exact ⟨a, b, rfl, by simpa [pRoles, rW] using hk 0 a rfl, by simpa [pRoles, rW] using hk 1 b rfl, by simp [lenRL_cons, lenRL_nil, cst, cRole, rW, pRoles]; omega⟩
theorem Rt.tryr {x : Nd} (h : Rt 7 x) (hop : x.op = 49) : ∃ b r, x.l = b :: r ∧ Rt 6 b ∧ (∀ y ∈ r, Rt 8 y) ∧ lenR x 7 = 5 + lenR b 6 + sumR 8 r := by
 have h2 := h.own.2
 have hk := fun i z => h.kid (i := i) (y := z)
 rw [hop] at h2
 have hlen : 2 ≤ x.l.length := by simpa [pCounts] using h2
 obtain ⟨b, r, hl⟩ : ∃ b r, x.l = b :: r := by
  cases hx : x.l with
  | nil => rw [hx] at hlen; simp at hlen
  | cons b r => exact ⟨b, r, rfl⟩
 have hR : pRoles 49 x.l.length = 6 :: List.replicate r.length 8 := by rw [hl]; simp [pRoles]
 have hg : ∀ k, k < r.length → (6 :: List.replicate r.length (8 : Int)).getD (k + 1) 0 = 8 := fun k hk => by
  rw [List.getD_eq_getElem?_getD, List.getElem?_cons_succ, List.getElem?_replicate, if_pos hk]; rfl
 rw [hop, hR] at hk
 refine ⟨b, r, hl, by have h3 := hk 0 b (by rw [hl]; rfl); simpa [rW] using h3, fun y hy => ?_, ?_⟩
 ·obtain ⟨i, hi, e⟩ := List.getElem_of_mem hy
  have h3 := hk (i + 1) y (by rw [hl, List.getElem?_cons_succ, List.getElem?_eq_getElem hi, e])
  rw [hg i hi] at h3
  simpa [rW] using h3
 ·rw [lenR_eq, hop, hR, hl, lenRL_cons, lenRL_const (ρ := 8) (by decide) r (0 + 1) fun k hk => by rw [show 0 + 1 + k = k + 1 by omega, hg k hk]; simp [cRole, rW]]
  simp [cst, cRole, rW]
  omega
end
section
def IfR : List Nd → Prop
 | [] => True
 | [b] => Rt 6 b
 | c :: b :: r => Rt 0 c ∧ Rt 6 b ∧ IfR r
def lenIf : List Nd → Nat
 | [] => 0
 | [b] => lenR b 6
 | c :: b :: r => lenR c 0 + 1 + lenR b 6 + 1 + lenIf r
theorem ifL_get (n i : Nat) (hi : i < n) : (ifL n).getD i 0 = if i % 2 = 1 ∨ i + 1 = n then 6 else 0 := by
 unfold ifL
 by_cases h : n % 2 = 0
 ·rw [if_pos h, ifK_getD n i hi]
  by_cases h1 : i % 2 = 0
  ·rw [if_pos h1, if_neg (by omega)]
  ·rw [if_neg h1, if_pos (by omega)]
 ·rw [if_neg h, List.getD_eq_getElem?_getD, List.getElem?_set]
  by_cases h1 : n - 1 = i
  ·rw [if_pos h1, if_pos (by rw [ifK_length]; omega), if_pos (by omega)]
   rfl
  ·rw [if_neg h1, ← List.getD_eq_getElem?_getD, ifK_getD n i hi]
   by_cases h2 : i % 2 = 0
   ·rw [if_pos h2, if_neg (by omega)]
   ·rw [if_neg h2, if_pos (by omega)]
theorem ifR_of {R : List Int} {n : Nat} (hg : ∀ i, i < n → R.getD i 0 = if i % 2 = 1 ∨ i + 1 = n then 6 else 0) : ∀ (m : Nat) (l : List Nd) (i : Nat), l.length ≤ m → i + l.length = n → i % 2 = 0 → (∀ (k : Nat) (y : Nd), l[k]? = some y → Rt (R.getD (i + k) 0) y) → IfR l ∧ lenRL 41 7 R i l = lenIf l - 2 * (l.length / 2) ∧ 2 * (l.length / 2) ≤ lenIf l
 | m, [], i, _, _, _, _ => ⟨trivial, by rw [lenRL_nil]; rfl, Nat.zero_le _⟩
 | m, [b], i, _, hn, he, hk => by
  have h1 := hk 0 b rfl
  rw [Nat.add_zero, hg i (by simp at hn; omega), if_pos (.inr (by simpa using hn))] at h1
  refine ⟨h1, ?_, by simp⟩
  rw [lenRL_cons, lenRL_nil, if_neg (by omega), hg i (by simp at hn; omega), if_pos (.inr (by simpa using hn))]
  simp [cRole, rW, lenIf]
 | 0, c :: b :: r, i, hm, _, _, _ => by simp at hm
 | m + 1, c :: b :: r, i, hm, hn, he, hk => by
  simp only [List.length_cons] at hm hn
  have h0 := hk 0 c rfl
  have h1 := hk 1 b rfl
  rw [Nat.add_zero, hg i (by omega), if_neg (by omega)] at h0
  rw [hg (i + 1) (by omega), if_pos (by omega)] at h1
  obtain ⟨a1, a2, a3⟩ := ifR_of hg m r (i + 2) (by omega) (by omega) (by omega) fun k y hy => by
   have := hk (k + 2) y (by simpa using hy)
   rwa [show i + (k + 2) = i + 2 + k by omega] at this
  refine ⟨⟨h0, h1, a1⟩, ?_, ?_⟩
  ·rw [lenRL_cons, lenRL_cons, if_neg (by omega), if_neg (by omega), hg i (by omega), if_neg (by omega), hg (i + 1) (by omega), if_pos (by omega), a2]
   simp only [lenIf, List.length_cons]
   simp [cRole, rW]
   omega
  ·simp only [lenIf, List.length_cons]
   omega
theorem Rt.ifr {x : Nd} (h : Rt 7 x) (hop : x.op = 41) : IfR x.l ∧ lenR x 7 = 1 + lenIf x.l ∧ 2 ≤ x.l.length := by
 have h2 := h.own.2
 have hk := fun i z => h.kid (i := i) (y := z)
 rw [hop] at h2
 have hlen : 2 ≤ x.l.length := by simpa [pCounts] using h2
 have hR : pRoles x.op x.l.length = ifL x.l.length := by rw [hop]; simp [pRoles]
 rw [hR] at hk
 obtain ⟨a1, a2, a3⟩ := ifR_of (fun i hi => ifL_get x.l.length i hi) x.l.length x.l 0 (Nat.le_refl _) (Nat.zero_add _) rfl fun k y hy => by
  have := hk k y hy
  rw [Nat.zero_add]
  simpa [rW] using this
 refine ⟨a1, ?_, hlen⟩
 rw [lenR_eq, hR, hop, a2]
 simp [cst]
 omega
def patch (L : List J) (i : Nat) (t : Int) : List J := match L[i]? with
 | some j => L.set i ⟨j.op, t, j.b, j.s, j.ln⟩
 | none => L
def patchAll (L : List J) (es : List Nat) (t : Int) : List J := es.foldl (fun L i => patch L i t) L
theorem patch_len (L : List J) (i : Nat) (t : Int) : (patch L i t).length = L.length := by
 unfold patch
 split
 ·rw [List.length_set]
 ·rfl
theorem patch_mid (A B : List J) (j : J) (t : Int) : patch (A ++ j :: B) A.length t = A ++ ⟨j.op, t, j.b, j.s, j.ln⟩ :: B := by
 unfold patch
 rw [List.getElem?_append_right (Nat.le_refl _), Nat.sub_self]
 dsimp only [List.getElem?_cons_zero]
 rw [List.set_append_right _ _ (Nat.le_refl _), Nat.sub_self]
 rfl
theorem patchAll_snoc (L : List J) (es : List Nat) (i : Nat) (t : Int) : patchAll L (es ++ [i]) t = patch (patchAll L es t) i t := by
 unfold patchAll
 rw [List.foldl_append]
 rfl
theorem patchAll_len (L : List J) (es : List Nat) (t : Int) : (patchAll L es t).length = L.length := by
 induction es generalizing L with
 | nil => rfl
 | cons i r ih => unfold patchAll at ih ⊢; rw [List.foldl_cons, ih, patch_len]
end
end Go.Proofs.YtbegahbagnflnaaGreatDoor
