import Derived.Test.YtbegahbagnflnaaGreatDoorMn14
set_option linter.unusedSimpArgs false
set_option linter.unusedVariables false
set_option linter.unnecessarySimpa false
namespace Go.Proofs.YtbegahbagnflnaaGreatDoor
section
open Go.RowKit
variable {W V w w' : World} {X C : Nat} {sv : Value} {m : MS}
theorem own_heap' {w w' : World} {base e s n : Nat} {v : Value} {xs : List Value} (h : w.ownsRow base e s v n xs) (hk : ∀ k, v.ownBlock = some k → w'.heap[k]? = w.heap[k]?) : w'.ownsRow base e s v n xs := by
 refine ⟨h.1, ?_⟩
 rcases h.2 with hh | ⟨g, cap, cur, rfl, hb, hg, r⟩
 ·exact .inl hh
 ·exact .inr ⟨g, cap, cur, rfl, hb, by rw [hk g rfl]; exact hg, r⟩
def eV (es : List Nat) : List Value := es.map fun (i : Nat) => .int .i64 (i : Int)
def EndsAt (w : World) (C base : Nat) (ev : Value) (es : List Nat) : Prop := w.ownsRow base 3 1 ev es.length (eV es) ∧ ∀ k, ev.ownBlock = some k → ¬ NvB w C k
theorem EndsAt.kept {C base : Nat} {ev : Value} {es : List Nat} (h : EndsAt V C base ev es) (ik : IKept V w C) : EndsAt w C base ev es := by
 refine ⟨own_heap' h.1 fun k hk => ?_, fun k hk hn => h.2 k hk (ik.2.2 k (h.1.lt k hk).2 hn)⟩
 rcases h.1.2 with ⟨e, -⟩ | ⟨g, cap, cur, e, -, hg, -⟩
 ·rw [e] at hk; cases hk
 ·rw [e] at hk
  simp only [Value.ownBlock, Option.some.injEq] at hk
  subst hk
  rw [hg]
  exact ik.2.1 g _ _ hg (h.2 g (by rw [e]; rfl))
theorem EndsAt.nil (w : World) (C base : Nat) : EndsAt w C base (.slice none 0 0) [] := ⟨World.ownsRow_nil _ _ _ _, fun k hk => by cases hk⟩
theorem MW.ends {base : Nat} {ev : Value} {es : List Nat} (h : MW W V w X C sv m) (he : EndsAt w C base ev es) (hf : Fr (fun k => some k = ev.ownBlock) w w') (hV : V.heap.size ≤ base) (hW : W.heap.size ≤ base) : MW W V w' X C sv m := by
 obtain ⟨lv, nv, bv, xs, zs, hc, ho1, hins, ho2, ho3⟩ := h.hC
 have hbk : ∀ k, some k = ev.ownBlock → base ≤ k := fun k hk => (he.1.lt k hk.symm).1
 have hcC := hf.heap hc (fun e => own_ne_cells he.1 hc (by decide) C e.symm rfl)
 refine ⟨h.f.trans (U := fun _ => False) hf (fun _ _ h => h) (fun k hk e => by have := hbk k e; omega), h.kp.step hf (node_ne_own he.1 (by decide)), ⟨Nat.le_trans h.ik.1 hf.size, fun k cs fz e hn => hf.heap (h.ik.2.1 k cs fz e hn) fun e' => by
  have h1 := (Array.getElem?_eq_some_iff.1 e).1
  have h2 := hbk k e'
  omega, fun k hk hn => h.ik.2.2 k hk (hn.same (by rw [hcC, hc]))⟩, h.lo, hf.heap h.hX (fun e => own_ne_cells he.1 h.hX (by decide) X e.symm rfl), lv, nv, bv, xs, zs, hcC, hf.own ho1 (own_ne ho1 he.1 (by decide)), hins, hf.own ho2 (fun k hk e => he.2 k e.symm ((NvB.of hc).2 hk)), hf.own ho3 (own_ne ho3 he.1 (by decide))⟩
theorem EndsAt.snoc {base g cap p : Nat} {ev : Value} {es : List Nat} (h : MW W V w X C sv m) (he : EndsAt w C base ev es) (hf : Fr (fun k => some k = ev.ownBlock) w w') (ho : w'.ownsRow base 3 1 (.slice (some ⟨g, 0, none⟩) (es.length + 1) cap) (es.length + 1) (eV es ++ [.int .i64 (p : Int)])) (hg : ev.ownBlock = some g ∨ w.heap.size ≤ g) : EndsAt w' C base (.slice (some ⟨g, 0, none⟩) (es.length + 1) cap) (es ++ [p]) := by
 obtain ⟨lv, nv, bv, xs, zs, hc, ho1, hins, ho2, ho3⟩ := h.hC
 have hcC := hf.heap hc (fun e => own_ne_cells he.1 hc (by decide) C e.symm rfl)
 refine ⟨by rw [List.length_append]; simpa [eV] using ho, fun k hk hn => ?_⟩
 simp only [Value.ownBlock, Option.some.injEq] at hk
 subst hk
 have hn2 : NvB w C g := hn.same (by rw [hcC, hc])
 rcases hg with h1 | h1
 ·exact he.2 g h1 hn2
 ·have h2 := (ho2.lt g ((NvB.of hc).1 hn2)).2
  omega
def IfSt (W : World) (D : Nat → Prop) (m : MS) (l r : List Nd) (rv : Value) (c : Int → List J) (k nb : Nat) (es : List Nat) : Prop :=
 (NL D W r rv ∧ IfR r ∧ lenIf l = k + lenIf r) ∧ (cntL r ≤ cntL l ∧ szL r ≤ szL l ∧ ∀ y ∈ walkL r, y ∈ walkL l) ∧ (m.nb ≤ nb ∧ nb ≤ m.nb + k) ∧ (∀ t, FX (fun z => z = m.ln ∨ LnOf l z) nb m.L.length k (c t) t) ∧
 (∀ t rest, patchAll (m.L ++ c 0 ++ rest) es t = m.L ++ c t ++ rest) ∧ (∀ i ∈ es, i < m.L.length + k) ∧ es.length ≤ k
set_option maxRecDepth 100000 in
set_option maxHeartbeats 12800000 in
theorem ifs_of (N : Nat) (ihb : BlockTo N) (l : List Nd) (hl : cntL l < N) (hM : szL l ≤ 1048576) (hif : IfR l) (D : Nat → Prop) (v : Value) (hv : NL D W l v) (hm : MW W V w X C sv m) (hL : m.L.length + lenIf l ≤ 1073741824) (hB : m.nb + lenIf l ≤ 1073741824) :
  Calls Tryz.prog 114 #[.pointer (some ⟨X, 0, none⟩), v] w (SPost W V X C sv m (fun z => z = m.ln ∨ LnOf l z) (lenIf l)) := by
 obtain ⟨a0, cap, us, rfl, -⟩ := id hv
 have HM := hid hm; have HB := hid (And.intro hl hM); have HL := hid (And.intro hL hB); have HIB := hid ihb
 have HST := hid (show IfSt W D m l l (.slice a0 l.length cap) (fun _ => []) 0 m.nb [] from ⟨⟨hv, hif, by omega⟩, ⟨Nat.le_refl _, Nat.le_refl _, fun _ h => h⟩, ⟨Nat.le_refl _, Nat.le_refl _⟩, fun t => FX.nil, fun t rest => rfl, fun i hi => (by cases hi), Nat.le_refl _⟩)
 have HM0 := hid (And.intro hm.ik.1 hm.f.size)
 clear hv hm hl hM hif hL hB ihb
 go_enter Tryz.func114, Tryz.ntmps114
 go_wp2_with fail
 go_loopw [1, 4, 5] (fun rv ev _ wr => ∃ (r : List Nd) (c : Int → List J) (k nb : Nat) (es : List Nat) (ra : Option Addr) (rc : Nat) (ea : Option Addr) (ec : Nat), rv = .slice ra r.length rc ∧ ev = .slice ea es.length ec ∧ Hid (IfSt W D m l r (.slice ra r.length rc) c k nb es) ∧ Hid (EndsAt wr C w.heap.size (.slice ea es.length ec) es) ∧ Hid (MW W V wr X C sv ⟨m.L ++ c 0, nb, m.ln⟩) ∧ Hid (w.heap.size ≤ wr.heap.size)) (fun rv _ _ _ => sliceLen rv)
 case atStart => exact ⟨l, fun _ => [], 0, m.nb, [], a0, cap, none, 0, rfl, rfl, HST, EndsAt.nil _ _ _, by rw [List.append_nil]; exact HM.out, Nat.le_refl _⟩
 case round =>
  clear HST HM
  obtain ⟨r, c, k, nb, es, ra, rc, ea, ec, rfl, rfl, HS, HE, HK, HZ⟩ := hrel
  match r, HS with
  | [], HS =>
   obtain ⟨⟨hnl, hif, hlen⟩, ⟨hc1, hc2, hwk⟩, hnb, hfx, hpa, hes, hel⟩ := HS.out
   simp only [lenIf] at hlen
   have HLE := hid hlen; have HNN := hid hnb; have HFX := hid hfx; have HPA := hid hpa; have HES := hid hes; have HEL := hid hel; have HWK := hid hwk
   have hlk : (m.L ++ c 0).length = m.L.length + k := by rw [List.length_append, (hfx 0).1]
   have HLK := hid hlk
   clear hnl hif hlen hc1 hc2 hwk hnb hfx hpa hes hel hlk
   have hr1 : ¬ (1 : Int) < (([] : List Nd).length : Nat) := by simp
   simp only [List.length_nil] at *
   obtain ⟨LL, hLL⟩ : ∃ LL : List J, m.L ++ c 0 = LL := ⟨_, rfl⟩
   have HLL := hid hLL
   have HKL := hid (show MW W V wr X C sv ⟨LL, nb, m.ln⟩ by rw [← hLL]; exact HK.out)
   have HEL2 := hid (show LL.length = m.L.length + k by rw [← hLL]; exact HLK.out)
   have HEE := HE
   clear hLL
   obtain ⟨hown, -⟩ := HEE.out
   have hec : es.length ≤ 1073741824 := by have := HEL.out; have := HL.out; have := HLE.out; omega
   clear hown
   go_wp2_with fail
   go_loopw [7, 47] (fun _ i wr2 => ∃ q : Nat, q ≤ es.length ∧ i = .int .i64 q ∧ Hid (MW W V wr2 X C sv ⟨patchAll LL (es.take q) (LL.length : Int), nb, m.ln⟩) ∧ Hid (EndsAt wr2 C w.heap.size (.slice ea es.length ec) es)) (fun _ i _ => es.length - (intOf i).toNat)
   case atStart => exact ⟨0, Nat.zero_le _, rfl, HKL.out, HEE.out⟩
   case round =>
    clear HEE HKL
    obtain ⟨q, hq, rfl, HKQ, HEQ⟩ := hrel
    by_cases hlt : q < es.length
    ·obtain ⟨i, hi⟩ : ∃ i, es[q]? = some i := ⟨_, List.getElem?_eq_getElem hlt⟩
     have hltI : (q : Int) < es.length := by omega
     have hil := HES.out i (List.mem_of_getElem? hi)
     have hpl : (patchAll LL (es.take q) (LL.length : Int)).length = LL.length := patchAll_len _ _ _
     obtain ⟨j, hj⟩ : ∃ j, (patchAll LL (es.take q) (LL.length : Int))[i]? = some j := ⟨_, List.getElem?_eq_getElem (by rw [hpl, HEL2.out]; omega)⟩
     have hhe := here_any HKQ.out.now i hj (by rw [hpl, HEL2.out]; have := HL.out; have := HLE.out; omega)
     dsimp only at hhe
     rw [hpl] at hhe
     have hpt : (patchAll LL (es.take q) (LL.length : Int)).set i ⟨j.op, (LL.length : Int), j.b, j.s, j.ln⟩ = patchAll LL (es.take (q + 1)) (LL.length : Int) := by
      rw [List.take_add_one, hi, Option.toList_some, patchAll_snoc]
      unfold patch
      rw [hj]
     rw [hpt] at hhe
     have HHE := hid hhe
     rcases HEQ.out.1.2 with ⟨-, h0⟩ | ⟨g, cap9, cur9, hge, -⟩
     ·omega
     have hcl := HEQ.out.1.cells (g := g) (by rw [hge]; rfl) q (.int .i64 (i : Int)) (by unfold eV; rw [List.getElem?_map, hi]; rfl)
     simp only [Value.slice.injEq] at hge
     obtain ⟨rfl, -, rfl⟩ := hge
     rw [show (⟨g, 0, none⟩ : Addr).add q = ⟨g, q, none⟩ by unfold Addr.add; split <;> simp_all] at hcl
     have HQL := hid hlt
     clear hil hpl hj hhe hpt hi hlt
     go_wp2_with fail
     refine HHE.out.mono ?_
     rintro e w7 ⟨rfl, hw⟩
     have HK7 := hid (HKQ.out.since hw); have HE7 := hid (HEQ.out.kept hw.ik)
     clear hw HHE hcl
     go_wp2_with fail
     go_roundw
     case rel => exact ⟨q + 1, by have := HQL.out; omega, by go_num, HK7, HE7⟩
     case measure => simp [intOf]; have := HQL.out; omega
    ·obtain rfl : q = es.length := by omega
     have hlt' : ¬ (es.length : Int) < es.length := by omega
     have hfin := HKQ.out
     rw [List.take_length] at hfin
     have HFN := hid hfin
     clear hfin hlt
     go_wp2_with fail
     go_end0
     refine ⟨rfl, c ((m.L.length + k : Nat) : Int), nb, by have := HNN.out; have := HLE.out; omega, ?_, HFN.out.cast ?_⟩
     ·rw [show lenIf l = k by have := HLE.out; omega]
      exact (HFX.out _).close
     ·have h := HPA.out ((m.L.length + k : Nat) : Int) []
      rw [List.append_nil, List.append_nil, HLL.out] at h
      rw [HEL2.out, h]
  | [b], HS =>
   obtain ⟨⟨hnl, hif, hlen⟩, ⟨hc1, hc2, hwk⟩, hnb, hfx, hpa, hes, hel⟩ := HS.out
   simp only [lenIf] at hlen
   have HLE := hid hlen; have HNN := hid hnb; have HFX := hid hfx; have HPA := hid hpa; have HES := hid hes; have HEL := hid hel; have HWK := hid hwk
   have hlk : (m.L ++ c 0).length = m.L.length + k := by rw [List.length_append, (hfx 0).1]
   have HLK := hid hlk
   simp only [cntL, szL] at hc1 hc2
   obtain ⟨b1, o1, bva, bvc, bl, blc, e1, -, hvb, z0, z1, z2, z3, z4, z5, z6, z7⟩ := hnl.at (k := 0) (y := b) rfl
   subst e1
   simp only [Nat.zero_mul, Nat.add_zero] at z7
   obtain ⟨bw, bv9, be, -, hnb2⟩ := hvb.open
   obtain rfl : bv9 = .slice bl b.l.length blc := by simp at be; exact be.2.symm
   have HNB := hid hnb2; have HRB := hid hif.block6
   have hcb := Nd.cnt_eq b; have hzb := Nd.sz_eq b
   have HC := hid (show cntL b.l < N ∧ szL b.l ≤ 1048576 by have := HB.out; omega)
   have z7' := HK.out.f.cell z7 not_false
   have HBE := hid (HIB.out b.l HC.out.1 HC.out.2 HRB.out.1 D W wr wr _ X C sv _ HNB.out HK.out.now (by (try dsimp only); rw [hlk]; have := HL.out; have := HRB.out.2; omega) (by (try dsimp only); have := HL.out; have := HRB.out.2; have := HNN.out; omega))
   clear hnl hif hlen hc1 hc2 hwk hnb hfx hpa hes hel hlk z0 z1 z2 z3 z4 z5 z6 z7 hvb be hnb2 hcb hzb
   have hr1 : ¬ (1 : Int) < (([b] : List Nd).length : Nat) := by simp
   have hb1 : ([b] : List Nd).length = 1 := rfl
   rw [hb1]
   clear hr1 hb1
   go_wp2_with fail
   refine HBE.out.mono ?_
   rintro e w4 ⟨rfl, cb, nb2, hnb2, hc, hw⟩
   try dsimp only at hnb2 hc hw
   rw [HLK.out] at hc
   have HCB := hid (And.intro hnb2 hc)
   have HK4 := hid (HK.out.since hw); have HE4 := hid (HE.out.kept hw.ik)
   have hq : (m.L ++ c 0 ++ cb : List J).length = m.L.length + k + sumR 7 b.l := by rw [List.length_append, HLK.out, hc.1]
   have HQ4 := hid hq
   clear hw hq hc hnb2 HBE z7'
   obtain ⟨LL, hLL⟩ : ∃ LL : List J, m.L ++ c 0 ++ cb = LL := ⟨_, rfl⟩
   have HLL := hid hLL
   have HKL := hid (show MW W V w4 X C sv ⟨LL, nb2, m.ln⟩ by rw [← hLL]; exact HK4.out)
   have HEL2 := hid (show LL.length = m.L.length + k + sumR 7 b.l by rw [← hLL]; exact HQ4.out)
   have HEE := HE4
   clear hLL
   obtain ⟨hown, -⟩ := HEE.out
   have hec : es.length ≤ 1073741824 := by have := HEL.out; have := HL.out; have := HLE.out; omega
   clear hown
   go_wp2_with fail
   go_loopw [7, 47] (fun _ i wr2 => ∃ q : Nat, q ≤ es.length ∧ i = .int .i64 q ∧ Hid (MW W V wr2 X C sv ⟨patchAll LL (es.take q) (LL.length : Int), nb2, m.ln⟩) ∧ Hid (EndsAt wr2 C w.heap.size (.slice ea es.length ec) es)) (fun _ i _ => es.length - (intOf i).toNat)
   case atStart => exact ⟨0, Nat.zero_le _, rfl, HKL.out, HEE.out⟩
   case round =>
    clear HEE HKL
    obtain ⟨q, hq, rfl, HKQ, HEQ⟩ := hrel
    by_cases hlt : q < es.length
    ·obtain ⟨i, hi⟩ : ∃ i, es[q]? = some i := ⟨_, List.getElem?_eq_getElem hlt⟩
     have hltI : (q : Int) < es.length := by omega
     have hil := HES.out i (List.mem_of_getElem? hi)
     have hpl : (patchAll LL (es.take q) (LL.length : Int)).length = LL.length := patchAll_len _ _ _
     obtain ⟨j, hj⟩ : ∃ j, (patchAll LL (es.take q) (LL.length : Int))[i]? = some j := ⟨_, List.getElem?_eq_getElem (by rw [hpl, HEL2.out]; omega)⟩
     have hhe := here_any HKQ.out.now i hj (by rw [hpl, HEL2.out]; have := HL.out; have := HLE.out; have := HRB.out.2; omega)
     dsimp only at hhe
     rw [hpl] at hhe
     have hpt : (patchAll LL (es.take q) (LL.length : Int)).set i ⟨j.op, (LL.length : Int), j.b, j.s, j.ln⟩ = patchAll LL (es.take (q + 1)) (LL.length : Int) := by
      rw [List.take_add_one, hi, Option.toList_some, patchAll_snoc]
      unfold patch
      rw [hj]
     rw [hpt] at hhe
     have HHE := hid hhe
     rcases HEQ.out.1.2 with ⟨-, h0⟩ | ⟨g, cap9, cur9, hge, -⟩
     ·omega
     have hcl := HEQ.out.1.cells (g := g) (by rw [hge]; rfl) q (.int .i64 (i : Int)) (by unfold eV; rw [List.getElem?_map, hi]; rfl)
     simp only [Value.slice.injEq] at hge
     obtain ⟨rfl, -, rfl⟩ := hge
     rw [show (⟨g, 0, none⟩ : Addr).add q = ⟨g, q, none⟩ by unfold Addr.add; split <;> simp_all] at hcl
     have HQL := hid hlt
     clear hil hpl hj hhe hpt hi hlt
     go_wp2_with fail
     refine HHE.out.mono ?_
     rintro e w7 ⟨rfl, hw⟩
     have HK7 := hid (HKQ.out.since hw); have HE7 := hid (HEQ.out.kept hw.ik)
     clear hw HHE hcl
     go_wp2_with fail
     go_roundw
     case rel => exact ⟨q + 1, by have := HQL.out; omega, by go_num, HK7, HE7⟩
     case measure => simp [intOf]; have := HQL.out; omega
    ·obtain rfl : q = es.length := by omega
     have hlt' : ¬ (es.length : Int) < es.length := by omega
     have hfin := HKQ.out
     rw [List.take_length] at hfin
     have HFN := hid hfin
     clear hfin hlt
     go_wp2_with fail
     go_end0
     refine ⟨rfl, c ((m.L.length + (k + sumR 7 b.l) : Nat) : Int) ++ cb, nb2, by have := HNN.out; have := HLE.out; have := HCB.out.1; have := HRB.out.2; omega, ?_, HFN.out.cast ?_⟩
     ·rw [show lenIf l = k + sumR 7 b.l by have := HLE.out; have := HRB.out.2; omega]
      have h1 := (HFX.out ((m.L.length + (k + sumR 7 b.l) : Nat) : Int)).mono (QL := fun z => z = m.ln ∨ LnOf l z) (fun _ h => h) HCB.out.1.1
      have h2 := HCB.out.2.mono (QL := fun z => z = m.ln ∨ LnOf l z) (fun z hz => .inr (hz.mono fun y hy => HWK.out y (by rw [walkL, Nd.walk_eq b]; simp [hy]))) (Nat.le_refl _)
      exact (h1.cat (h2.x)).close
     ·have h := HPA.out ((m.L.length + (k + sumR 7 b.l) : Nat) : Int) cb
      rw [HLL.out] at h
      rw [HEL2.out, show m.L.length + k + sumR 7 b.l = m.L.length + (k + sumR 7 b.l) by omega, h, List.append_assoc]
  | a :: b :: r, HS =>
   obtain ⟨⟨hnl, ⟨hra, hrb, hrr⟩, hlen⟩, ⟨hc1, hc2, hwk⟩, hnb, hfx, hpa, hes, hel⟩ := HS.out
   simp only [lenIf] at hlen
   simp only [cntL, szL] at hc1 hc2
   have HLE := hid hlen
   obtain ⟨b0, o0, ava, avc, al, alc, e0, -, hva, a0, a1, a2, a3, a4, a5, a6, a7⟩ := hnl.at (k := 0) (y := a) rfl
   subst e0
   obtain ⟨b1, o1, bva, bvc, bl, blc, e1, -, hvb, z0, z1, z2, z3, z4, z5, z6, z7⟩ := hnl.at (k := 1) (y := b) rfl
   simp only [Option.some.injEq, Addr.mk.injEq] at e1
   obtain ⟨rfl, rfl, -⟩ := e1
   simp only [Nat.zero_mul, Nat.add_zero, Nat.one_mul] at a0 a1 a2 a3 a4 a5 a6 a7 z7
   obtain ⟨bw, bv9, be, -, hnb2⟩ := hvb.open
   obtain rfl : bv9 = .slice bl b.l.length blc := by simp at be; exact be.2.symm
   have HNB := hid hnb2; have HRB := hid hrb.block6
   have hcb := Nd.cnt_eq b; have hzb := Nd.sz_eq b
   have HC := hid (show a.sz ≤ 1048576 ∧ cntL b.l < N ∧ szL b.l ≤ 1048576 by have := HB.out; omega)
   have HZ7 := hid z7
   have hf := HK.out.f
   replace a0 := hf.cell a0 not_false
   replace a1 := hf.cell a1 not_false
   replace a2 := hf.cell a2 not_false
   replace a3 := hf.cell a3 not_false
   replace a4 := hf.cell a4 not_false
   replace a5 := hf.cell a5 not_false
   replace a6 := hf.cell a6 not_false
   replace a7 := hf.cell a7 not_false
   have hlk : (m.L ++ c 0).length = m.L.length + k := by rw [List.length_append, (hfx 0).1]
   have HLK := hid hlk
   have hr2 : (1 : Int) < ((a :: b :: r).length : Nat) := by simp only [List.length_cons]; omega
   have HCE := hid (expr_to (a.cnt + 1) a (Nat.lt_succ_self _) HC.out.1 hra D W wr wr _ X C sv _ hva HK.out.now (by (try dsimp only); rw [hlk]; have := HL.out; omega))
   have HNN := hid hnb; have HFX := hid hfx; have HPA := hid hpa; have HES := hid hes; have HEL := hid hel; have HWK := hid hwk; have HNL := hid hnl; have HRR := hid hrr; have HCZ := hid (And.intro hc1 hc2)
   generalize hrl : (a :: b :: r).length = rl at *
   have HRL := hid hrl
   clear hnl hra hrb hrr hlen hc1 hc2 hwk hnb hfx hpa hes hel z0 z1 z2 z3 z4 z5 z6 z7 hva hvb be hnb2 hcb hzb hf hlk hrl
   go_wp2_with fail
   refine HCE.out.mono ?_
   rintro e w2 ⟨rfl, c0, hc, hw⟩
   try dsimp only at hc hw
   rw [HLK.out] at hc
   have hq : (m.L ++ c 0 ++ c0 : List J).length = m.L.length + k + lenR a 0 := by rw [List.length_append, HLK.out, hc.1]
   have HQ2 := hid hq; have HC0 := hid hc
   have HP := hid (put0 hw 7 0 0 ⟨#[]⟩ (by rw [hq]; have := HL.out; have := HLE.out; omega))
   clear hc hw hq HCE a0 a1 a2 a3 a4 a5 a6 a7
   go_wp2_with fail
   refine HP.out.mono ?_
   rintro e w3 ⟨rfl, hw⟩
   rw [HQ2.out]
   have hq : (m.L ++ c 0 ++ c0 ++ [J.mk 7 0 0 ⟨#[]⟩ m.ln] : List J).length = m.L.length + k + lenR a 0 + 1 := by rw [List.length_append, HQ2.out]; rfl
   have HQ3 := hid hq
   have z7 := hw.f.cell HZ7.out not_false
   have HBE := hid (HIB.out b.l HC.out.2.1 HC.out.2.2 HRB.out.1 D W wr w3 _ X C sv _ HNB.out hw (by (try dsimp only); rw [hq]; have := HL.out; have := HLE.out; have := HRB.out.2; omega) (by (try dsimp only); have := HL.out; have := HLE.out; have := HRB.out.2; have := HNN.out; omega))
   have hidx2 : (1 : Int) < (rl : Nat) := hr2
   clear hw hq HP
   go_wp2_with fail
   refine HBE.out.mono ?_
   rintro e w4 ⟨rfl, cb, nb2, hnb2, hc, hw⟩
   try dsimp only at hnb2 hc hw
   rw [HQ3.out] at hc
   have hq : (m.L ++ c 0 ++ c0 ++ [J.mk 7 0 0 ⟨#[]⟩ m.ln] ++ cb : List J).length = m.L.length + k + lenR a 0 + 1 + sumR 7 b.l := by rw [List.length_append, HQ3.out, hc.1]
   have HQ4 := hid hq; have HCB := hid (And.intro hnb2 hc)
   have HP := hid (put0 hw 6 0 0 ⟨#[]⟩ (by rw [hq]; have := HL.out; have := HLE.out; have := HRB.out.2; omega))
   clear hw hq hc hnb2 HBE z7
   go_upto_region 5 with fail
   have hne : (m.L.length + k + lenR a 0 + 1 + sumR 7 b.l) = (m.L.length + k + lenR a 0 + 1 + sumR 7 b.l) := rfl
   clear hne
   go_wp2_with fail
   refine HP.out.mono ?_
   rintro e w5 ⟨rfl, hw⟩
   rw [HQ4.out]
   have HK5 := hid (HK.out.since hw)
   have HE5 := hid (HE.out.kept hw.ik)
   have HZ5 := hid (Nat.le_trans HZ.out hw.ik.1)
   have hq : (m.L ++ c 0 ++ c0 ++ [J.mk 7 0 0 ⟨#[]⟩ m.ln] ++ cb ++ [J.mk 6 0 0 ⟨#[]⟩ m.ln] : List J).length = m.L.length + k + lenR a 0 + 1 + sumR 7 b.l + 1 := by rw [List.length_append, HQ4.out]; rfl
   have HQ5 := hid hq
   clear hw hq HP
   obtain ⟨p, hp⟩ : ∃ p, m.L.length + k + lenR a 0 + 1 + sumR 7 b.l = p := ⟨_, rfl⟩
   have HPP := hid hp
   rw [hp]
   clear hp
   have HLB := hid (show es.length + 1 ≤ 1099511627776 by have := HEL.out; have := HL.out; have := HLE.out; omega)
   have HFA := hid ((Fr.refl (fun _ => False) w5).alloc (.cells #[.int .i64 (p : Int)] 3))
   have HEA := hid (show EndsAt (w5.alloc (.cells #[.int .i64 (p : Int)] 3)) C w.heap.size (.slice ea es.length ec) es from HE5.out.kept (HK5.out.now.fr HFA.out).ik)
   have HKA := hid (HK5.out.fr HFA.out)
   have HCE := hid (cell_new1 w5 (.int .i64 (p : Int)) 3 (0, 0))
   have HBS := hid (show w.heap.size ≤ (w5.alloc (.cells #[.int .i64 (p : Int)] 3)).heap.size from Nat.le_trans HZ5.out HFA.out.size)
   go_wp2_with (at_builtin; go_must (refine wpList_append1 rfl (.tmp 25) (.tmp 29) 64 rfl 3 (.int .i64 0) 8 Tryz.underlying64 Tryz.info_int rfl _ rfl w.heap.size es.length (eV es) HEA.out.1 w5.heap.size 1 (.int .i64 (p : Int)) rfl HCE.out rfl HLB.out (by decide) HBS.out ?_; intro g9 cap9 w9 ho9 hf9 hn9))
   have HK9 := hid (HKA.out.ends HEA.out hf9 HM0.out.1 HM0.out.2)
   have HE9 := hid (HEA.out.snoc (p := p) HKA.out hf9 ho9 hn9)
   have HZ9 := hid (Nat.le_trans HBS.out hf9.size)
   clear ho9 hf9 hn9 HFA HEA HKA HCE HBS
   have hhe := here_mid HK9.out.now (A := m.L ++ c 0 ++ c0) (j := J.mk 7 0 0 ⟨#[]⟩ m.ln) (B := cb ++ [J.mk 6 0 0 ⟨#[]⟩ m.ln]) (by simp) (k := m.L.length + k + lenR a 0) (by rw [HQ2.out]) (by rw [HQ5.out]; have := HL.out; have := HLE.out; have := HRB.out.2; omega)
   rw [show ((m.L.length + k + lenR a 0 : Nat) : Int) = (m.L.length : Int) + k + lenR a 0 by omega, HQ5.out] at hhe
   have HHE := hid hhe
   clear hhe
   refine HHE.out.mono ?_
   rintro e w10 ⟨rfl, hw⟩
   try dsimp only at hw
   have HK10 := hid (HK9.out.since hw)
   have HE10 := hid (HE9.out.kept hw.ik)
   have HZ10 := hid (Nat.le_trans HZ9.out hw.ik.1)
   clear hw HHE
   have hrl2 : 2 ≤ rl := by rw [← HRL.out]; simp
   have hrlI : (2 : Int) ≤ (rl : Nat) := by omega
   have HR2 := hid hrl2
   clear hrl2
   go_wp2_with fail
   have hrr : rl - 2 = r.length := by rw [← HRL.out]; simp
   have hlp : ∀ t, (m.L ++ c t ++ (c0 ++ [(J.mk 7 ((m.L.length + k + lenR a 0 + 1 + sumR 7 b.l + 1 : Nat) : Int) 0 ⟨#[]⟩ m.ln)] ++ cb)).length = p := fun t => by
    rw [← HPP.out]
    simp [(HFX.out t).1, HC0.out.1, HCB.out.2.1]
    omega
   have hnl' : NL D W r (.slice (if rc = 2 then some ⟨b0, o0, none⟩ else some ⟨b0, o0 + 16, none⟩) r.length (rc - 2)) := by
    have hn := HNL.out
    have hlc : rl ≤ rc := by
     obtain ⟨a9, c9, u9, e9, h9, -⟩ := hn
     simp only [Value.slice.injEq] at e9
     obtain ⟨-, e1, e2⟩ := e9
     omega
    by_cases h2 : rc = 2
    ·rw [if_pos h2]
     have hr0 : r.length = 0 := by have := HR2.out; omega
     have hr1 : r = [] := List.eq_nil_of_length_eq_zero hr0
     rw [h2, hr1]
     exact ⟨_, 0, fun _ => #[], rfl, Nat.le_refl _, Nat.zero_le _, fun h => (by cases h), fun i hi => by simp at hi, fun i x h => by simp at h⟩
    ·rw [if_neg h2]
     have hd := hn.drop 2 (by simp)
     rw [hrr] at hd
     exact hd
   have hwr : ∀ y, y ∈ walkL r ∨ y ∈ walkL b.l → y ∈ walkL l := fun y hy => HWK.out y (by
    rw [walkL, walkL, Nd.walk_eq b]
    rcases hy with h | h <;> simp [h])
   refine ⟨⟨r, fun t => c t ++ (c0 ++ [(J.mk 7 ((m.L.length + k + lenR a 0 + 1 + sumR 7 b.l + 1 : Nat) : Int) 0 ⟨#[]⟩ m.ln)] ++ cb ++ [J.mk 6 t 0 ⟨#[]⟩ m.ln]), k + (lenR a 0 + 1 + sumR 7 b.l + 1), nb2, es ++ [p], _, rc - 2, _, cap9, by rw [hrr], by rw [List.length_append]; rfl, ⟨⟨hnl', HRR.out, ?_⟩, ⟨?_, ?_, fun y hy => hwr y (.inl hy)⟩, ?_, fun t => ?_, fun t rest => ?_, fun i hi => ?_, ?_⟩, ?_, ?_, HZ10.out⟩, ?_⟩
   ·have := HLE.out; have := HRB.out.2; omega
   ·have := HCZ.out.1; omega
   ·have := HCZ.out.2; omega
   ·have := HNN.out; have := HCB.out.1; omega
   ·have h1 := (HFX.out t).mono (QL := fun z => z = m.ln ∨ LnOf l z) (fun _ h => h) HCB.out.1.1
    have h2 := HC0.out.mono (QL := fun z => z = m.ln ∨ LnOf l z) (fun z hz => .inl hz) HCB.out.1.1
    have h3 := HCB.out.2.mono (QL := fun z => z = m.ln ∨ LnOf l z) (fun z hz => .inr (hz.mono fun y hy => hwr y (.inr hy))) (Nat.le_refl _)
    exact h1.cat (FX.arm h2 h3 (by omega) (.inl rfl) (.inl rfl))
   ·have e1 : m.L ++ (c 0 ++ (c0 ++ [(J.mk 7 ((m.L.length + k + lenR a 0 + 1 + sumR 7 b.l + 1 : Nat) : Int) 0 ⟨#[]⟩ m.ln)] ++ cb ++ [J.mk 6 0 0 ⟨#[]⟩ m.ln])) ++ rest = m.L ++ c 0 ++ ((c0 ++ [(J.mk 7 ((m.L.length + k + lenR a 0 + 1 + sumR 7 b.l + 1 : Nat) : Int) 0 ⟨#[]⟩ m.ln)] ++ cb ++ [J.mk 6 0 0 ⟨#[]⟩ m.ln]) ++ rest) := by simp only [List.append_assoc]
    have e2 : m.L ++ c t ++ ((c0 ++ [(J.mk 7 ((m.L.length + k + lenR a 0 + 1 + sumR 7 b.l + 1 : Nat) : Int) 0 ⟨#[]⟩ m.ln)] ++ cb ++ [J.mk 6 0 0 ⟨#[]⟩ m.ln]) ++ rest) = (m.L ++ c t ++ (c0 ++ [(J.mk 7 ((m.L.length + k + lenR a 0 + 1 + sumR 7 b.l + 1 : Nat) : Int) 0 ⟨#[]⟩ m.ln)] ++ cb)) ++ J.mk 6 0 0 ⟨#[]⟩ m.ln :: rest := by simp
    rw [patchAll_snoc, e1, HPA.out, e2, ← hlp t, patch_mid]
    simp
   ·rcases List.mem_append.1 hi with h | h
    ·have := HES.out i h; omega
    ·rw [List.mem_singleton.1 h, ← HPP.out]; omega
   ·rw [List.length_append]; have := HEL.out; simp only [List.length_cons, List.length_nil]; omega
   ·show Hid (EndsAt _ _ _ _ _)
    rw [List.length_append]
    exact HE10
   ·exact HK10.out.cast (by simp)
   ·simp only [sliceLen]
    have := HR2.out
    omega
end
section
open Go.RowKit
variable {W V w w' : World} {X C : Nat} {sv : Value} {m : MS}
def TrySt (P : List J) (m : MS) (r : List Nd) (PL : Int → Prop) (n0 : Nat) (c : Int → List J) (nb0 nb q : Nat) (es : List Nat) : Prop :=
 q ≤ r.length ∧ (nb0 ≤ nb ∧ nb ≤ nb0 + sumR 8 (r.take q)) ∧ (∀ t, FX PL nb n0 (sumR 8 (r.take q)) (c t) t) ∧
 (∀ t rest, patchAll (P ++ (J.mk 6 0 0 ⟨#[]⟩ m.ln :: c 0) ++ rest) es t = P ++ (J.mk 6 t 0 ⟨#[]⟩ m.ln :: c t) ++ rest) ∧ (∀ i ∈ es, i < n0 + sumR 8 (r.take q)) ∧ es.length ≤ 1 + sumR 8 (r.take q)
theorem codes_way (x : Nd) (hsz : x.sz ≤ 1048576) (hrt : Rt 5 x) (D : Nat → Prop) (u : Array Value) (hv : NIn D W x u) (hm : MW W V w X C sv m) (hL : m.L.length + lenR x 5 ≤ 1073741824) :
  Calls Tryz.prog 141 #[.pointer (some ⟨X, 0, none⟩), .agg u] w fun e w' => ∃ (i : Int) (ct : Int → List J), e = .returned (.int .i64 i) ∧ (∀ t, FX (fun z => z = m.ln) m.nb m.L.length (lenR x 5) (ct t) t) ∧ MW W V w' X C sv ⟨m.L ++ ct 0, m.nb, m.ln⟩ ∧
   ((i = -1 ∧ ∀ t, ct t = []) ∨ ∃ A : List J, i = (A.length : Int) ∧ A.length < m.L.length + lenR x 5 ∧ ∀ t, m.L ++ ct t = A ++ [J.mk 7 t 0 ⟨#[]⟩ m.ln]) := by
 have hl5 := hrt.codes.2.2.1
 refine (codes_of (x.cnt + 1) (expr_to (x.cnt + 1)) x (Nat.lt_succ_self _) hsz hrt D W V w u X C sv m hv hm hL).mono ?_
 rintro e w' ⟨h1, h2⟩
 by_cases h0 : x.l = []
 ·obtain ⟨rfl, hw⟩ := h1 h0
  rw [h0] at hl5
  refine ⟨-1, fun _ => [], rfl, fun t => ?_, hw.cast (by simp), .inl ⟨rfl, fun _ => rfl⟩⟩
  rw [hl5]
  exact FX.nil
 ·obtain ⟨c, hc, rfl, hw⟩ := h2 h0
  rw [if_neg (fun e => h0 (List.eq_nil_of_length_eq_zero e))] at hl5
  have hcl : (m.L ++ c ++ [⟨27, 0, 0, ⟨#[]⟩, m.ln⟩] : List J).length = m.L.length + (sumR 1 x.l + 3) := by simp [hc.1]
  refine ⟨_, fun t => c ++ [⟨27, 0, 0, ⟨#[]⟩, m.ln⟩] ++ [⟨7, t, 0, ⟨#[]⟩, m.ln⟩], rfl, fun t => ?_, hw.cast (by simp), .inr ⟨m.L ++ c ++ [⟨27, 0, 0, ⟨#[]⟩, m.ln⟩], by rw [hcl], by rw [hcl, hl5]; omega, fun t => by simp⟩⟩
  rw [hl5]
  exact FC.codes hc rfl rfl
theorem EndsAt.first (h : MW W V w X C sv m) {base : Nat} (hb : base ≤ w.heap.size) (p : Nat) : EndsAt (w.alloc (.cells #[.int .i64 (p : Int)] 3)) C base (.slice (some ⟨w.heap.size, 0, none⟩) 1 1) [p] := by
 have h' := h.fr ((Fr.refl (fun _ => False) w).alloc (.cells #[.int .i64 (p : Int)] 3))
 refine ⟨⟨rfl, .inr ⟨w.heap.size, 1, #[.int .i64 (p : Int)], rfl, hb, heap_alloc_new w _, Nat.le_refl _, by decide, by simp, by simp [eV]⟩⟩, fun k hk hn => ?_⟩
 simp only [Value.ownBlock, Option.some.injEq] at hk
 subst hk
 obtain ⟨lv, nv, bv, xs, zs, hc, ho1, hins, ho2, ho3⟩ := h.hC
 have hc' := ((Fr.refl (fun _ => False) w).alloc (.cells #[.int .i64 (p : Int)] 3)).heap hc not_false
 have h2 := (ho2.lt _ ((NvB.of hc').1 hn)).2
 omega
set_option maxRecDepth 100000 in
set_option maxHeartbeats 12800000 in
theorem try_of (N : Nat) (ihb : BlockTo N) (b : Nd) (r : List Nd) (hr : r ≠ []) (hl : cntL (b :: r) < N) (hM : szL (b :: r) ≤ 1048576) (hrb : Rt 6 b) (hx : ∀ y ∈ r, Rt 8 y) (D : Nat → Prop) (v : Value) (hv : NL D W (b :: r) v) (hm : MW W V w X C sv m) (hL : m.L.length + (4 + sumR 7 b.l + sumR 8 r) ≤ 1073741824) (hB : m.nb + (4 + sumR 7 b.l + sumR 8 r) ≤ 1073741824) :
  Calls Tryz.prog 117 #[.pointer (some ⟨X, 0, none⟩), v] w (SPost W V X C sv m (fun z => z = m.ln ∨ LnOf (b :: r) z) (4 + sumR 7 b.l + sumR 8 r)) := by
 obtain ⟨a0, cap, us, rfl, hlc, -⟩ := id hv
 have HL := hid (And.intro hL hB); have HIB := hid ihb; have HX := hid hx
 have HM0 := hid (And.intro hm.ik.1 hm.f.size)
 have HM := hid hm
 have HP := hid (put0 hm 24 0 0 ⟨#[]⟩ (by omega))
 have HR := hid (show r ≠ [] ∧ (b :: r).length ≤ cap from ⟨hr, hlc⟩)
 obtain ⟨b1, o1, bva, bvc, bl, blc, e1, -, hvb, z0, z1, z2, z3, z4, z5, z6, z7⟩ := hv.at (k := 0) (y := b) rfl
 subst e1
 simp only [Nat.zero_mul, Nat.add_zero] at z7
 obtain ⟨bw, bv9, be, -, hnb2⟩ := hvb.open
 obtain rfl : bv9 = .slice bl b.l.length blc := by simp at be; exact be.2.symm
 have HNB := hid hnb2; have HRB := hid hrb.block6
 have hcb := Nd.cnt_eq b; have hzb := Nd.sz_eq b
 simp only [cntL, szL] at hl hM
 have HC := hid (show (cntL b.l < N ∧ szL b.l ≤ 1048576) ∧ cntL r < N ∧ szL r ≤ 1048576 by omega)
 have HZ7 := hid z7; have HV := hid hv
 have HRN := hid (show r.length ≤ 1048576 by have h1 := len_le_cnt r; have h2 := cntL_szL r; omega)
 have hr1 : (0 : Int) < ((b :: r).length : Nat) := by simp only [List.length_cons]; omega
 generalize hrl : (b :: r).length = rl at *
 have HRL := hid hrl
 clear hv hm hl hM hrb hx hL hB ihb hlc z0 z1 z2 z3 z4 z5 z6 z7 hvb be hnb2 hcb hzb hrl hr
 go_enter Tryz.func117, Tryz.ntmps117
 go_wp2_with fail
 refine HP.out.mono ?_
 rintro e w1 ⟨rfl, hw⟩
 have hq : (m.L ++ [(J.mk 24 0 0 ⟨#[]⟩ m.ln)] : List J).length = m.L.length + 1 := by rw [List.length_append]; rfl
 have HQ1 := hid hq
 have z7 := hw.f.cell HZ7.out not_false
 have HBE := hid (HIB.out b.l HC.out.1.1 HC.out.1.2 HRB.out.1 D W V w1 _ X C sv _ HNB.out hw (by (try dsimp only); rw [hq]; have := HL.out; omega) (by (try dsimp only); have := HL.out; omega))
 clear hw HP hq
 go_wp2_with fail
 refine HBE.out.mono ?_
 rintro e w2 ⟨rfl, cb, nb, hnb, hc, hw⟩
 try dsimp only at hnb hc hw
 rw [HQ1.out] at hc
 have hq : (m.L ++ [(J.mk 24 0 0 ⟨#[]⟩ m.ln)] ++ cb : List J).length = m.L.length + 1 + sumR 7 b.l := by rw [List.length_append, HQ1.out, hc.1]
 have HQ2 := hid hq; have HCB := hid (And.intro hnb hc)
 have HP := hid (put0 hw 26 0 0 ⟨#[]⟩ (by rw [hq]; have := HL.out; omega))
 clear hw hq hc hnb HBE z7
 go_wp2_with fail
 refine HP.out.mono ?_
 rintro e w3 ⟨rfl, hw⟩
 have hq : (m.L ++ [(J.mk 24 0 0 ⟨#[]⟩ m.ln)] ++ cb ++ [(J.mk 26 0 0 ⟨#[]⟩ m.ln)] : List J).length = m.L.length + 2 + sumR 7 b.l := by rw [List.length_append, HQ2.out]; simp only [List.length_cons, List.length_nil]; omega
 have HQ3 := hid hq
 have HP2 := hid (put0 hw 6 0 0 ⟨#[]⟩ (by rw [hq]; have := HL.out; omega))
 clear hw hq HP
 go_wp2_with fail
 refine HP2.out.mono ?_
 rintro e w4 ⟨rfl, hw⟩
 rw [HQ3.out]
 have hq : (m.L ++ [(J.mk 24 0 0 ⟨#[]⟩ m.ln)] ++ cb ++ [(J.mk 26 0 0 ⟨#[]⟩ m.ln)] ++ [(J.mk 6 0 0 ⟨#[]⟩ m.ln)] : List J).length = m.L.length + 3 + sumR 7 b.l := by rw [List.length_append, HQ3.out]; simp only [List.length_cons, List.length_nil]; omega
 have HQ4 := hid hq
 have HK4 := hid hw
 clear hw hq HP2
 obtain ⟨p, hp⟩ : ∃ p, m.L.length + 2 + sumR 7 b.l = p := ⟨_, rfl⟩
 have HPP := hid hp
 rw [hp]
 clear hp
 have HFA := hid ((Fr.refl (fun _ => False) w4).alloc (.cells #[.int .i64 (p : Int)] 3))
 have HKA := hid (HK4.out.fr HFA.out)
 have HZ0 := hid (And.intro HK4.out.ik.1 HK4.out.f.size)
 have HEA := hid (EndsAt.first HK4.out (base := w4.heap.size) (Nat.le_refl _) p)
 have hhe := here_mid HKA.out.now (A := m.L) (j := J.mk 24 0 0 ⟨#[]⟩ m.ln) (B := cb ++ [J.mk 26 0 0 ⟨#[]⟩ m.ln] ++ [J.mk 6 0 0 ⟨#[]⟩ m.ln]) (by simp) (k := m.L.length) rfl (by rw [HQ4.out]; have := HL.out; omega)
 rw [HQ4.out] at hhe
 have HHE := hid hhe
 clear hhe
 go_wp2_with fail
 refine HHE.out.mono ?_
 rintro e w5 ⟨rfl, hw⟩
 try dsimp only at hw
 have HE5 := hid (HEA.out.kept hw.ik)
 have HK5 := hid (HKA.out.since hw)
 have HZ5 := hid (Nat.le_trans HFA.out.size hw.ik.1)
 clear hw HHE
 go_wp2_with fail
 case inl =>
  exfalso
  have := HR.out.2
  have := List.length_pos_iff.2 HR.out.1
  have := HRL.out
  simp only [List.length_cons] at this
  omega
 have hrr : rl - 1 = r.length := by rw [← HRL.out]; simp
 rw [hrr]
 have hnl := HV.out.drop 1 (by simp)
 have HTL := hid (show NL D W r (.slice (some ⟨b1, o1 + 8, none⟩) r.length (cap - 1)) by simpa [hrr] using hnl)
 clear hrr hnl
 obtain ⟨P, hP⟩ : ∃ P : List J, m.L ++ J.mk 24 ((m.L.length + 3 + sumR 7 b.l : Nat) : Int) 0 ⟨#[]⟩ m.ln :: (cb ++ [J.mk 26 0 0 ⟨#[]⟩ m.ln]) = P := ⟨_, rfl⟩
 have hpl : P.length = p := by rw [← hP, ← HPP.out]; simp [HCB.out.2.1]; omega
 have HPL := hid hpl
 have HPD := hid hP
 have HK6 := hid (show MW W V w5 X C sv ⟨P ++ [J.mk 6 0 0 ⟨#[]⟩ m.ln], nb, m.ln⟩ from HK5.out.cast (by rw [← hP]; simp))
 clear hP hpl
 go_loopw [5, 7, 8, 33] (fun ev _ _ i wr => ∃ (q : Nat) (c : Int → List J) (nb2 : Nat) (es : List Nat) (ea : Option Addr) (ec : Nat), i = .int .i64 q ∧ ev = .slice ea es.length ec ∧ Hid (TrySt P m r (fun z => z = m.ln ∨ LnOf (b :: r) z) (p + 1) c nb nb2 q es) ∧ Hid (EndsAt wr C w4.heap.size (.slice ea es.length ec) es) ∧ Hid (MW W V wr X C sv ⟨P ++ (J.mk 6 0 0 ⟨#[]⟩ m.ln :: c 0), nb2, m.ln⟩) ∧ Hid (w4.heap.size ≤ wr.heap.size)) (fun _ _ _ i _ => r.length - (intOf i).toNat)
 case atStart =>
  refine ⟨0, fun _ => [], nb, [p], _, 1, rfl, rfl, ⟨Nat.zero_le _, ⟨Nat.le_refl _, Nat.le_add_right _ _⟩, fun t => FX.nil, fun t rest => ?_, fun i hi => ?_, ?_⟩, HE5, HK6, HZ5⟩
  ·have h := patch_mid P rest (J.mk 6 0 0 ⟨#[]⟩ m.ln) t
   rw [HPL.out] at h
   simpa [patchAll] using h
  ·rw [List.mem_singleton.1 hi]; exact Nat.lt_of_lt_of_le (Nat.lt_succ_self _) (Nat.le_add_right _ _)
  ·exact Nat.le_add_right _ _
 case round =>
  obtain ⟨q, c, nb2, es, ea, ec, rfl, rfl, HS, HE, HK, HZ⟩ := hrel
  by_cases hlt : q < r.length
  ·have hltI : (q : Int) < r.length := by omega
   have hqb : (q : Int) + 1 ≤ 1048576 := by have := HRN.out; omega
   obtain ⟨x, hxq⟩ : ∃ x, r[q]? = some x := ⟨_, List.getElem?_eq_getElem hlt⟩
   obtain ⟨b2, o2, va, vc, xl, xlc, e2, -, hvx, z0, z1, z2, z3, z4, z5, z6, z7⟩ := HTL.out.at hxq
   simp only [Option.some.injEq, Addr.mk.injEq] at e2
   obtain ⟨rfl, rfl, -⟩ := e2
   obtain ⟨y, z, hxl, hry, hrz, hlx⟩ := (HX.out x (List.mem_of_getElem? hxq)).exc
   obtain ⟨xw, xv9, xe, -, hnx⟩ := hvx.open
   obtain rfl : xv9 = .slice xl x.l.length xlc := by simp at xe; exact xe.2.symm
   rw [hxl] at hnx z7
   simp only [List.length_cons, List.length_nil, Nat.zero_add, Nat.reduceAdd] at hnx z7
   obtain ⟨b3, o3, yva, yvc, yl, ylc, e3, -, hvy, y0, y1, y2, y3, y4, y5, y6, y7⟩ := hnx.at (k := 0) (y := y) rfl
   subst e3
   obtain ⟨b4, o4, zva, zvc, zl, zlc, e4, -, hvz, w0, w1', w2', w3', w4', w5', w6', w7⟩ := hnx.at (k := 1) (y := z) rfl
   simp only [Option.some.injEq, Addr.mk.injEq] at e4
   obtain ⟨rfl, rfl, -⟩ := e4
   simp only [Nat.zero_mul, Nat.add_zero, Nat.one_mul] at y0 y1 y2 y3 y4 y5 y6 y7 w7
   have hf := HK.out.f
   replace z0 := hf.cell z0 not_false
   replace z1 := hf.cell z1 not_false
   replace z2 := hf.cell z2 not_false
   replace z3 := hf.cell z3 not_false
   replace z4 := hf.cell z4 not_false
   replace z5 := hf.cell z5 not_false
   replace z6 := hf.cell z6 not_false
   replace z7 := hf.cell z7 not_false
   have HYV := hid hvy; have HZV := hid hvz; have HYC := hid (And.intro y0 (And.intro y1 (And.intro y2 (And.intro y3 (And.intro y4 (And.intro y5 (And.intro y6 y7)))))))
   have HW7 := hid w7; have HXL := hid hxl; have HRY := hid hry; have HRZ := hid hrz; have HLX := hid hlx; have HXQ := hid hxq
   clear y0 y1 y2 y3 y4 y5 y6 y7 w0 w1' w2' w3' w4' w5' w6' w7 hvx xe hnx hvy hvz hxl hry hrz hlx hxq hf
   have HF2 := hid ((Fr.refl (fun _ => False) wr).alloc (.cells #[.int .i64 x.op, .int .i64 x.ln, .string x.s, .int .i64 x.v.k, .int .i64 x.v.n, .string x.v.s, .slice va x.v.l.length vc, .slice (some ⟨b3, o3, none⟩) 2 xlc] 75))
   have HG := hid (heap_alloc_new wr (.cells #[.int .i64 x.op, .int .i64 x.ln, .string x.s, .int .i64 x.v.k, .int .i64 x.v.n, .string x.v.s, .slice va x.v.l.length vc, .slice (some ⟨b3, o3, none⟩) 2 xlc] 75))
   have HM2 := hid (HK.out.fr HF2.out)
   have HE2 := hid (HE.out.kept (HK.out.now.fr HF2.out).ik)
   have HZ2 := hid (Nat.le_trans HZ.out HF2.out.size)
   go_upto_region 8 with fail
   generalize wr.alloc (.cells #[.int .i64 x.op, .int .i64 x.ln, .string x.s, .int .i64 x.v.k, .int .i64 x.v.n, .string x.v.s, .slice va x.v.l.length vc, .slice (some ⟨b3, o3, none⟩) 2 xlc] 75) = w2 at *
   generalize wr.heap.size = B2 at *
   have HK0 := hid (fun (w5 : World) (h : NKept w2 w5) => node_cells (h _ _ _ HG.out))
   obtain ⟨-, -, -, -, -, -, -, q7⟩ := HK0.out w2 (NKept.refl w2)
   obtain ⟨y0, y1, y2, y3, y4, y5, y6, y7⟩ := HYC.out
   have hf := HM2.out.f
   replace y0 := hf.cell y0 not_false
   replace y1 := hf.cell y1 not_false
   replace y2 := hf.cell y2 not_false
   replace y3 := hf.cell y3 not_false
   replace y4 := hf.cell y4 not_false
   replace y5 := hf.cell y5 not_false
   replace y6 := hf.cell y6 not_false
   replace y7 := hf.cell y7 not_false
   obtain ⟨hq9, hnb9, hfx, hpa, hes, hel⟩ := HS.out
   have hpp := HPP.out; have hlq := HLX.out
   have hsx : sumR 8 (r.take (q + 1)) = sumR 8 (r.take q) + lenR x 8 := sumR_take HXQ.out
   have hsle : sumR 8 (r.take (q + 1)) ≤ sumR 8 r := sumR_take_le r (q + 1)
   have hszy : y.sz ≤ 1048576 ∧ cntL z.l < N ∧ szL z.l ≤ 1048576 := by
    have h1 := szL_mem HXQ.out; have h2 := cntL_mem HXQ.out
    have h3 := Nd.sz_eq x; have h4 := Nd.cnt_eq x; have h5 := Nd.sz_eq z; have h6 := Nd.cnt_eq z
    rw [HXL.out] at h3 h4
    simp only [szL, cntL] at h3 h4
    have := HC.out
    omega
   have hlk : (P ++ (J.mk 6 0 0 ⟨#[]⟩ m.ln :: c 0) : List J).length = p + 1 + sumR 8 (r.take q) := by rw [List.length_append, List.length_cons, (hfx 0).1, HPL.out]; omega
   have HLK := hid hlk; have HSX := hid (And.intro hsx hsle); have HSY := hid hszy
   have HCE := hid (codes_way y hszy.1 HRY.out D _ HYV.out HM2.out.now (by (try dsimp only); rw [hlk]; have := HL.out; omega))
   have HS5 := hid (And.intro hq9 (And.intro hnb9 (And.intro hfx (And.intro hpa (And.intro hes hel)))))
   clear hlk hsx hsle hszy hpp hlq hq9 hnb9 hfx hpa hes hel hf HYC z0 z1 z2 z3 z4 z5 z6 z7
   go_wp2_with fail
   refine HCE.out.mono ?_
   rintro e w3 ⟨ui, ct, rfl, hc, hw, hu⟩
   try dsimp only at hc hw
   rw [HLK.out] at hc hu
   have HCT := hid hc; have HUI := hid hu
   have hq : (P ++ (J.mk 6 0 0 ⟨#[]⟩ m.ln :: c 0) ++ ct 0 : List J).length = p + 1 + sumR 8 (r.take q) + lenR y 5 := by rw [List.length_append, HLK.out, (hc 0).1]
   have HQ3 := hid hq
   obtain ⟨q0, q1, q2, q3, q4, q5, q6, q7'⟩ := HK0.out w3 hw.kp
   have HK3 := hid hw
   have HP := hid (put0 hw 29 0 0 x.s (by rw [hq]; have := HL.out; have := HSX.out; have := HPP.out; have := HLX.out; omega))
   clear hc hu hw hq HCE q7 y0 y1 y2 y3 y4 y5 y6 y7 q0 q1 q3 q4 q5 q6 q7'
   go_wp2_with fail
   refine HP.out.mono ?_
   rintro e w4' ⟨rfl, hw⟩
   have hq : (P ++ (J.mk 6 0 0 ⟨#[]⟩ m.ln :: c 0) ++ ct 0 ++ [J.mk 29 0 0 x.s m.ln] : List J).length = p + 1 + sumR 8 (r.take q) + lenR y 5 + 1 := by rw [List.length_append, HQ3.out]; rfl
   have HQ4' := hid hq
   have HP := hid (put0 hw 30 0 0 ⟨#[]⟩ (by rw [hq]; have := HL.out; have := HSX.out; have := HPP.out; have := HLX.out; omega))
   clear hw hq q2
   go_wp2_with fail
   refine HP.out.mono ?_
   rintro e w5' ⟨rfl, hw⟩
   have hq : (P ++ (J.mk 6 0 0 ⟨#[]⟩ m.ln :: c 0) ++ ct 0 ++ [J.mk 29 0 0 x.s m.ln] ++ [J.mk 30 0 0 ⟨#[]⟩ m.ln] : List J).length = p + 1 + sumR 8 (r.take q) + lenR y 5 + 2 := by rw [List.length_append, HQ4'.out]; rfl
   have HQ5 := hid hq
   obtain ⟨q0, q1, q2, q3, q4, q5, q6, q7⟩ := HK0.out w5' hw.kp
   have w7 := hw.f.cell HW7.out not_false
   obtain ⟨zw, zv9, ze, -, hnz⟩ := HZV.out.open
   obtain rfl : zv9 = .slice zl z.l.length zlc := by simp at ze; exact ze.2.symm
   have HBE := hid (HIB.out z.l HSY.out.2.1 HSY.out.2.2 HRZ.out.block6.1 D W w2 w5' _ X C sv _ hnz hw (by (try dsimp only); rw [hq]; have := HL.out; have := HSX.out; have := HPP.out; have := HLX.out; have := HRZ.out.block6.2; omega) (by (try dsimp only); have := HL.out; have := HSX.out; have := HLX.out; have := HRZ.out.block6.2; have := HS5.out.2.1; have := HCB.out.1; omega))
   clear hw hq q0 q1 q2 q3 q4 q5 q6 ze hnz HP
   go_wp2_with fail
   refine HBE.out.mono ?_
   rintro e w6 ⟨rfl, cb2, nb3, hnb, hc, hw⟩
   try dsimp only at hnb hc hw
   rw [HQ5.out] at hc
   have hq : (P ++ (J.mk 6 0 0 ⟨#[]⟩ m.ln :: c 0) ++ ct 0 ++ [J.mk 29 0 0 x.s m.ln] ++ [J.mk 30 0 0 ⟨#[]⟩ m.ln] ++ cb2 : List J).length = p + 1 + sumR 8 (r.take q) + lenR y 5 + 2 + sumR 7 z.l := by rw [List.length_append, HQ5.out, hc.1]
   have HQ6 := hid hq; have HCB2 := hid (And.intro hnb hc)
   have HP := hid (put0 hw 6 0 0 ⟨#[]⟩ (by rw [hq]; have := HL.out; have := HSX.out; have := HPP.out; have := HLX.out; have := HRZ.out.block6.2; omega))
   clear hw hq hc hnb HBE q7 w7
   go_wp2_with fail
   refine HP.out.mono ?_
   rintro e w7' ⟨rfl, hw⟩
   rcases HUI.out with ⟨rfl, hct⟩ | ⟨A, rfl, hAl, hct⟩
   ·rw [HQ6.out]
    have HK7 := hid (HM2.out.since hw)
    have HE7 := hid (HE2.out.kept hw.ik)
    have HZ7' := hid (Nat.le_trans HZ2.out hw.ik.1)
    have hq : (P ++ (J.mk 6 0 0 ⟨#[]⟩ m.ln :: c 0) ++ ct 0 ++ [J.mk 29 0 0 x.s m.ln] ++ [J.mk 30 0 0 ⟨#[]⟩ m.ln] ++ cb2 ++ [J.mk 6 0 0 ⟨#[]⟩ m.ln] : List J).length = p + 1 + sumR 8 (r.take q) + lenR y 5 + 2 + sumR 7 z.l + 1 := by rw [List.length_append, HQ6.out]; rfl
    have HQ7 := hid hq
    clear hw hq HP
    have HQL := hid hlt
    obtain ⟨p2, hp2⟩ : ∃ p2, p + 1 + sumR 8 (r.take q) + lenR y 5 + 2 + sumR 7 z.l = p2 := ⟨_, rfl⟩
    have HP2 := hid hp2
    rw [hp2]
    clear hp2
    have HLB := hid (show es.length + 1 ≤ 1099511627776 by have := HS5.out.2.2.2.2.2; have := HL.out; have := HSX.out; omega)
    have HFA := hid ((Fr.refl (fun _ => False) w7').alloc (.cells #[.int .i64 (p2 : Int)] 3))
    have HEA := hid (show EndsAt (w7'.alloc (.cells #[.int .i64 (p2 : Int)] 3)) C w4.heap.size (.slice ea es.length ec) es from HE7.out.kept (HK7.out.now.fr HFA.out).ik)
    have HKA := hid (HK7.out.fr HFA.out)
    have HCE := hid (cell_new1 w7' (.int .i64 (p2 : Int)) 3 (0, 0))
    have HBS := hid (show w4.heap.size ≤ (w7'.alloc (.cells #[.int .i64 (p2 : Int)] 3)).heap.size from Nat.le_trans HZ7'.out HFA.out.size)
    have HWZ := hid (show ∀ y', y' ∈ walkL z.l → y' ∈ walkL (b :: r) from fun y' hy' => by
     have h1 := (walkL_at (l := b :: r) (k := q + 1) (y := x) HXQ.out).2
     have h2 := (walkL_at (l := x.l) (k := 1) (y := z) (by rw [HXL.out]; rfl)).2
     exact h1 y' (h2 y' hy'))
    go_wp2_with (at_builtin; go_must (refine wpList_append1 rfl (.tmp 58) (.tmp 62) 64 rfl 3 (.int .i64 0) 8 Tryz.underlying64 Tryz.info_int rfl _ rfl w4.heap.size es.length (eV es) HEA.out.1 w7'.heap.size 1 (.int .i64 (p2 : Int)) rfl HCE.out rfl HLB.out (by decide) HBS.out ?_; intro g9 cap9 w9 ho9 hf9 hn9))
    have HK9 := hid (HKA.out.ends HEA.out hf9 HZ0.out.1 HZ0.out.2)
    have HE9 := hid (HEA.out.snoc (p := p2) HKA.out hf9 ho9 hn9)
    have HZ9 := hid (Nat.le_trans HBS.out hf9.size)
    clear ho9 hf9 hn9 HFA HEA HKA HCE HBS
    have HK10 := HK9
    have HE10 := HE9
    have HZ10 := HZ9
    have HCN := hid hct
    clear hct
    try go_wp2_with fail
    go_roundw
    case rel =>
     refine ⟨q + 1, fun t => c t ++ (ct ((p2 + 1 : Nat) : Int) ++ [J.mk 29 0 0 x.s m.ln] ++ [J.mk 30 0 0 ⟨#[]⟩ m.ln] ++ cb2 ++ [J.mk 6 t 0 ⟨#[]⟩ m.ln]), nb3, es ++ [p2], _, cap9, by go_num, by rw [List.length_append]; rfl, ⟨by have := HQL.out; omega, ⟨?_, ?_⟩, fun t => ?_, fun t rest => ?_, fun i hi => ?_, ?_⟩, ?_, ?_, ?_⟩
     ·have := HS5.out.2.1; have := HCB2.out.1; omega
     ·have := HS5.out.2.1; have := HCB2.out.1; have := HSX.out.1; have := HLX.out; have := HRZ.out.block6.2; omega
     ·have h1 := (HS5.out.2.2.1 t).mono (QL := fun z => z = m.ln ∨ LnOf (b :: r) z) (fun _ h => h) HCB2.out.1.1
      have h2 := (HCT.out ((p2 + 1 : Nat) : Int)).mono (QL := fun z => z = m.ln ∨ LnOf (b :: r) z) (fun z hz => .inl hz) HCB2.out.1.1
      have h3 := HCB2.out.2.mono (QL := fun z => z = m.ln ∨ LnOf (b :: r) z) (fun z hz => .inr (hz.mono fun y hy => HWZ.out y hy)) (Nat.le_refl _)
      rw [HSX.out.1, HLX.out, HRZ.out.block6.2, show 3 + lenR y 5 + sumR 7 z.l = lenR y 5 + 2 + sumR 7 z.l + 1 by omega]
      exact h1.cat (FX.except h2 h3 (by have := HP2.out; omega) (.inl rfl) (.inl rfl) (.inl rfl))
     ·have e1 : P ++ (J.mk 6 0 0 ⟨#[]⟩ m.ln :: (c 0 ++ (ct ((p2 + 1 : Nat) : Int) ++ [J.mk 29 0 0 x.s m.ln] ++ [J.mk 30 0 0 ⟨#[]⟩ m.ln] ++ cb2 ++ [J.mk 6 0 0 ⟨#[]⟩ m.ln]))) ++ rest = P ++ (J.mk 6 0 0 ⟨#[]⟩ m.ln :: c 0) ++ (ct ((p2 + 1 : Nat) : Int) ++ [J.mk 29 0 0 x.s m.ln] ++ [J.mk 30 0 0 ⟨#[]⟩ m.ln] ++ cb2 ++ [J.mk 6 0 0 ⟨#[]⟩ m.ln] ++ rest) := by simp
      have e2 : P ++ (J.mk 6 t 0 ⟨#[]⟩ m.ln :: c t) ++ (ct ((p2 + 1 : Nat) : Int) ++ [J.mk 29 0 0 x.s m.ln] ++ [J.mk 30 0 0 ⟨#[]⟩ m.ln] ++ cb2 ++ [J.mk 6 0 0 ⟨#[]⟩ m.ln] ++ rest) = (P ++ (J.mk 6 t 0 ⟨#[]⟩ m.ln :: c t) ++ (ct ((p2 + 1 : Nat) : Int) ++ [J.mk 29 0 0 x.s m.ln] ++ [J.mk 30 0 0 ⟨#[]⟩ m.ln] ++ cb2)) ++ J.mk 6 0 0 ⟨#[]⟩ m.ln :: rest := by simp
      have hlp : (P ++ (J.mk 6 t 0 ⟨#[]⟩ m.ln :: c t) ++ (ct ((p2 + 1 : Nat) : Int) ++ [J.mk 29 0 0 x.s m.ln] ++ [J.mk 30 0 0 ⟨#[]⟩ m.ln] ++ cb2)).length = p2 := by
       rw [← HP2.out]
       simp [HPL.out, (HS5.out.2.2.1 t).1, (HCT.out _).1, HCB2.out.2.1]
       omega
      have hpm := patch_mid (P ++ (J.mk 6 t 0 ⟨#[]⟩ m.ln :: c t) ++ (ct ((p2 + 1 : Nat) : Int) ++ [J.mk 29 0 0 x.s m.ln] ++ [J.mk 30 0 0 ⟨#[]⟩ m.ln] ++ cb2)) rest (J.mk 6 0 0 ⟨#[]⟩ m.ln) t
      rw [hlp] at hpm
      rw [patchAll_snoc, e1, HS5.out.2.2.2.1, e2, hpm]
      simp
     ·rcases List.mem_append.1 hi with h | h
      ·have := HS5.out.2.2.2.2.1 i h; have := HSX.out.1; omega
      ·rw [List.mem_singleton.1 h, ← HP2.out]; have := HSX.out.1; have := HLX.out; have := HRZ.out.block6.2; omega
     ·rw [List.length_append]; have := HS5.out.2.2.2.2.2; have := HSX.out.1; have := HLX.out; simp only [List.length_cons, List.length_nil]; omega
     ·show Hid (EndsAt _ _ _ _ _)
      rw [List.length_append]
      exact HE10
     ·exact HK10.out.cast (by rw [HCN.out 0, HCN.out]; simp)
     ·exact HZ10
    case measure => simp [intOf]; have := HQL.out; omega
   ·rw [HQ6.out]
    have HK7 := hid (HM2.out.since hw)
    have HE7 := hid (HE2.out.kept hw.ik)
    have HZ7' := hid (Nat.le_trans HZ2.out hw.ik.1)
    have hq : (P ++ (J.mk 6 0 0 ⟨#[]⟩ m.ln :: c 0) ++ ct 0 ++ [J.mk 29 0 0 x.s m.ln] ++ [J.mk 30 0 0 ⟨#[]⟩ m.ln] ++ cb2 ++ [J.mk 6 0 0 ⟨#[]⟩ m.ln] : List J).length = p + 1 + sumR 8 (r.take q) + lenR y 5 + 2 + sumR 7 z.l + 1 := by rw [List.length_append, HQ6.out]; rfl
    have HQ7 := hid hq
    clear hw hq HP
    have HQL := hid hlt
    obtain ⟨p2, hp2⟩ : ∃ p2, p + 1 + sumR 8 (r.take q) + lenR y 5 + 2 + sumR 7 z.l = p2 := ⟨_, rfl⟩
    have HP2 := hid hp2
    rw [hp2]
    clear hp2
    have HLB := hid (show es.length + 1 ≤ 1099511627776 by have := HS5.out.2.2.2.2.2; have := HL.out; have := HSX.out; omega)
    have HFA := hid ((Fr.refl (fun _ => False) w7').alloc (.cells #[.int .i64 (p2 : Int)] 3))
    have HEA := hid (show EndsAt (w7'.alloc (.cells #[.int .i64 (p2 : Int)] 3)) C w4.heap.size (.slice ea es.length ec) es from HE7.out.kept (HK7.out.now.fr HFA.out).ik)
    have HKA := hid (HK7.out.fr HFA.out)
    have HCE := hid (cell_new1 w7' (.int .i64 (p2 : Int)) 3 (0, 0))
    have HBS := hid (show w4.heap.size ≤ (w7'.alloc (.cells #[.int .i64 (p2 : Int)] 3)).heap.size from Nat.le_trans HZ7'.out HFA.out.size)
    have HWZ := hid (show ∀ y', y' ∈ walkL z.l → y' ∈ walkL (b :: r) from fun y' hy' => by
     have h1 := (walkL_at (l := b :: r) (k := q + 1) (y := x) HXQ.out).2
     have h2 := (walkL_at (l := x.l) (k := 1) (y := z) (by rw [HXL.out]; rfl)).2
     exact h1 y' (h2 y' hy'))
    have HCN := hid hct; have HAL := hid hAl
    clear hct hAl
    go_wp2_with (at_builtin; go_must (refine wpList_append1 rfl (.tmp 58) (.tmp 62) 64 rfl 3 (.int .i64 0) 8 Tryz.underlying64 Tryz.info_int rfl _ rfl w4.heap.size es.length (eV es) HEA.out.1 w7'.heap.size 1 (.int .i64 (p2 : Int)) rfl HCE.out rfl HLB.out (by decide) HBS.out ?_; intro g9 cap9 w9 ho9 hf9 hn9))
    have HK9 := hid (HKA.out.ends HEA.out hf9 HZ0.out.1 HZ0.out.2)
    have HE9 := hid (HEA.out.snoc (p := p2) HKA.out hf9 ho9 hn9)
    have HZ9 := hid (Nat.le_trans HBS.out hf9.size)
    clear ho9 hf9 hn9 HFA HEA HKA HCE HBS
    have hhe := here_mid HK9.out.now (A := A) (j := J.mk 7 0 0 ⟨#[]⟩ m.ln) (B := [J.mk 29 0 0 x.s m.ln] ++ [J.mk 30 0 0 ⟨#[]⟩ m.ln] ++ cb2 ++ [J.mk 6 0 0 ⟨#[]⟩ m.ln]) (by rw [HCN.out 0]; simp) (k := A.length) rfl (by rw [HQ7.out]; have := HL.out; have := HSX.out; have := HLX.out; have := HPP.out; have := HRZ.out.block6.2; omega)
    rw [HQ7.out, HP2.out] at hhe
    have HHE := hid hhe
    clear hhe
    go_wp2_with fail
    refine HHE.out.mono ?_
    rintro e w10 ⟨rfl, hw⟩
    try dsimp only at hw
    have HK10 := hid (HK9.out.since hw)
    have HE10 := hid (HE9.out.kept hw.ik)
    have HZ10 := hid (Nat.le_trans HZ9.out hw.ik.1)
    clear hw HHE
    go_wp2_with fail
    go_roundw
    case rel =>
     refine ⟨q + 1, fun t => c t ++ (ct ((p2 + 1 : Nat) : Int) ++ [J.mk 29 0 0 x.s m.ln] ++ [J.mk 30 0 0 ⟨#[]⟩ m.ln] ++ cb2 ++ [J.mk 6 t 0 ⟨#[]⟩ m.ln]), nb3, es ++ [p2], _, cap9, by go_num, by rw [List.length_append]; rfl, ⟨by have := HQL.out; omega, ⟨?_, ?_⟩, fun t => ?_, fun t rest => ?_, fun i hi => ?_, ?_⟩, ?_, ?_, ?_⟩
     ·have := HS5.out.2.1; have := HCB2.out.1; omega
     ·have := HS5.out.2.1; have := HCB2.out.1; have := HSX.out.1; have := HLX.out; have := HRZ.out.block6.2; omega
     ·have h1 := (HS5.out.2.2.1 t).mono (QL := fun z => z = m.ln ∨ LnOf (b :: r) z) (fun _ h => h) HCB2.out.1.1
      have h2 := (HCT.out ((p2 + 1 : Nat) : Int)).mono (QL := fun z => z = m.ln ∨ LnOf (b :: r) z) (fun z hz => .inl hz) HCB2.out.1.1
      have h3 := HCB2.out.2.mono (QL := fun z => z = m.ln ∨ LnOf (b :: r) z) (fun z hz => .inr (hz.mono fun y hy => HWZ.out y hy)) (Nat.le_refl _)
      rw [HSX.out.1, HLX.out, HRZ.out.block6.2, show 3 + lenR y 5 + sumR 7 z.l = lenR y 5 + 2 + sumR 7 z.l + 1 by omega]
      exact h1.cat (FX.except h2 h3 (by have := HP2.out; omega) (.inl rfl) (.inl rfl) (.inl rfl))
     ·have e1 : P ++ (J.mk 6 0 0 ⟨#[]⟩ m.ln :: (c 0 ++ (ct ((p2 + 1 : Nat) : Int) ++ [J.mk 29 0 0 x.s m.ln] ++ [J.mk 30 0 0 ⟨#[]⟩ m.ln] ++ cb2 ++ [J.mk 6 0 0 ⟨#[]⟩ m.ln]))) ++ rest = P ++ (J.mk 6 0 0 ⟨#[]⟩ m.ln :: c 0) ++ (ct ((p2 + 1 : Nat) : Int) ++ [J.mk 29 0 0 x.s m.ln] ++ [J.mk 30 0 0 ⟨#[]⟩ m.ln] ++ cb2 ++ [J.mk 6 0 0 ⟨#[]⟩ m.ln] ++ rest) := by simp
      have e2 : P ++ (J.mk 6 t 0 ⟨#[]⟩ m.ln :: c t) ++ (ct ((p2 + 1 : Nat) : Int) ++ [J.mk 29 0 0 x.s m.ln] ++ [J.mk 30 0 0 ⟨#[]⟩ m.ln] ++ cb2 ++ [J.mk 6 0 0 ⟨#[]⟩ m.ln] ++ rest) = (P ++ (J.mk 6 t 0 ⟨#[]⟩ m.ln :: c t) ++ (ct ((p2 + 1 : Nat) : Int) ++ [J.mk 29 0 0 x.s m.ln] ++ [J.mk 30 0 0 ⟨#[]⟩ m.ln] ++ cb2)) ++ J.mk 6 0 0 ⟨#[]⟩ m.ln :: rest := by simp
      have hlp : (P ++ (J.mk 6 t 0 ⟨#[]⟩ m.ln :: c t) ++ (ct ((p2 + 1 : Nat) : Int) ++ [J.mk 29 0 0 x.s m.ln] ++ [J.mk 30 0 0 ⟨#[]⟩ m.ln] ++ cb2)).length = p2 := by
       rw [← HP2.out]
       simp [HPL.out, (HS5.out.2.2.1 t).1, (HCT.out _).1, HCB2.out.2.1]
       omega
      have hpm := patch_mid (P ++ (J.mk 6 t 0 ⟨#[]⟩ m.ln :: c t) ++ (ct ((p2 + 1 : Nat) : Int) ++ [J.mk 29 0 0 x.s m.ln] ++ [J.mk 30 0 0 ⟨#[]⟩ m.ln] ++ cb2)) rest (J.mk 6 0 0 ⟨#[]⟩ m.ln) t
      rw [hlp] at hpm
      rw [patchAll_snoc, e1, HS5.out.2.2.2.1, e2, hpm]
      simp
     ·rcases List.mem_append.1 hi with h | h
      ·have := HS5.out.2.2.2.2.1 i h; have := HSX.out.1; omega
      ·rw [List.mem_singleton.1 h, ← HP2.out]; have := HSX.out.1; have := HLX.out; have := HRZ.out.block6.2; omega
     ·rw [List.length_append]; have := HS5.out.2.2.2.2.2; have := HSX.out.1; have := HLX.out; simp only [List.length_cons, List.length_nil]; omega
     ·show Hid (EndsAt _ _ _ _ _)
      rw [List.length_append]
      exact HE10
     ·exact HK10.out.cast (by 
       have h := HCN.out ((p2 + 1 : Nat) : Int)
       have h2 : P ++ (J.mk 6 0 0 ⟨#[]⟩ m.ln :: (c 0 ++ (ct ((p2 + 1 : Nat) : Int) ++ [J.mk 29 0 0 x.s m.ln] ++ [J.mk 30 0 0 ⟨#[]⟩ m.ln] ++ cb2 ++ [J.mk 6 0 0 ⟨#[]⟩ m.ln]))) = P ++ (J.mk 6 0 0 ⟨#[]⟩ m.ln :: c 0) ++ ct ((p2 + 1 : Nat) : Int) ++ ([J.mk 29 0 0 x.s m.ln] ++ [J.mk 30 0 0 ⟨#[]⟩ m.ln] ++ cb2 ++ [J.mk 6 0 0 ⟨#[]⟩ m.ln]) := by simp
       rw [h2, h]
       simp)
     ·exact HZ10
    case measure => simp [intOf]; have := HQL.out; omega
  ·obtain rfl : q = r.length := by have := HS.out.1; omega
   have hlt' : ¬ (r.length : Int) < r.length := by omega
   obtain ⟨-, hnb9, hfx, hpa, hes, hel⟩ := HS.out
   rw [List.take_length] at hnb9 hfx hes hel
   have HS5 := hid (And.intro hnb9 (And.intro hfx (And.intro hpa (And.intro hes hel))))
   have hlk : (P ++ (J.mk 6 0 0 ⟨#[]⟩ m.ln :: c 0) : List J).length = p + 1 + sumR 8 r := by rw [List.length_append, List.length_cons, (hfx 0).1, HPL.out]; omega
   have HLK := hid hlk
   have HP := hid (put0 HK.out.now 31 0 0 ⟨#[]⟩ (by (try dsimp only); rw [hlk]; have := HL.out; have := HPP.out; omega))
   clear hlk hnb9 hfx hpa hes hel hlt HS
   go_wp2_with fail
   refine HP.out.mono ?_
   rintro e w6 ⟨rfl, hw⟩
   rw [HLK.out]
   have HK6' := hid (HK.out.since hw)
   have HE6 := hid (HE.out.kept hw.ik)
   clear hw HP
   obtain ⟨LL, hLL⟩ : ∃ LL : List J, P ++ (J.mk 6 0 0 ⟨#[]⟩ m.ln :: c 0) ++ [J.mk 31 0 0 ⟨#[]⟩ m.ln] = LL := ⟨_, rfl⟩
   have HLL := hid hLL
   have HKL := hid (show MW W V w6 X C sv ⟨LL, nb2, m.ln⟩ by rw [← hLL]; exact HK6'.out)
   have HEL2 := hid (show LL.length = p + 1 + sumR 8 r + 1 by rw [← hLL, List.length_append, HLK.out]; rfl)
   have HEE := HE6
   clear hLL
   have hec : es.length ≤ 1073741824 := by have := HS5.out.2.2.2.2; have := HL.out; omega
   go_wp2_with fail
   go_loopw [10, 75] (fun _ i wr2 => ∃ q : Nat, q ≤ es.length ∧ i = .int .i64 q ∧ Hid (MW W V wr2 X C sv ⟨patchAll LL (es.take q) (LL.length : Int), nb2, m.ln⟩) ∧ Hid (EndsAt wr2 C w4.heap.size (.slice ea es.length ec) es)) (fun _ i _ => es.length - (intOf i).toNat)
   case atStart => exact ⟨0, Nat.zero_le _, rfl, HKL.out, HEE.out⟩
   case round =>
    clear HEE HKL
    obtain ⟨q, hq, rfl, HKQ, HEQ⟩ := hrel
    by_cases hlt : q < es.length
    ·obtain ⟨i, hi⟩ : ∃ i, es[q]? = some i := ⟨_, List.getElem?_eq_getElem hlt⟩
     have hltI : (q : Int) < es.length := by omega
     have hil := HS5.out.2.2.2.1 i (List.mem_of_getElem? hi)
     have hpl : (patchAll LL (es.take q) (LL.length : Int)).length = LL.length := patchAll_len _ _ _
     obtain ⟨j, hj⟩ : ∃ j, (patchAll LL (es.take q) (LL.length : Int))[i]? = some j := ⟨_, List.getElem?_eq_getElem (by rw [hpl, HEL2.out]; omega)⟩
     have hhe := here_any HKQ.out.now i hj (by rw [hpl, HEL2.out]; have := HL.out; have := HPP.out; omega)
     dsimp only at hhe
     rw [hpl] at hhe
     have hpt : (patchAll LL (es.take q) (LL.length : Int)).set i ⟨j.op, (LL.length : Int), j.b, j.s, j.ln⟩ = patchAll LL (es.take (q + 1)) (LL.length : Int) := by
      rw [List.take_add_one, hi, Option.toList_some, patchAll_snoc]
      unfold patch
      rw [hj]
     rw [hpt] at hhe
     have HHE := hid hhe
     rcases HEQ.out.1.2 with ⟨-, h0⟩ | ⟨g, cap9, cur9, hge, -⟩
     ·omega
     have hcl := HEQ.out.1.cells (g := g) (by rw [hge]; rfl) q (.int .i64 (i : Int)) (by unfold eV; rw [List.getElem?_map, hi]; rfl)
     simp only [Value.slice.injEq] at hge
     obtain ⟨rfl, -, rfl⟩ := hge
     rw [show (⟨g, 0, none⟩ : Addr).add q = ⟨g, q, none⟩ by unfold Addr.add; split <;> simp_all] at hcl
     have HQL := hid hlt
     clear hil hpl hj hhe hpt hi hlt
     go_wp2_with fail
     refine HHE.out.mono ?_
     rintro e w7 ⟨rfl, hw⟩
     have HK7 := hid (HKQ.out.since hw); have HE7 := hid (HEQ.out.kept hw.ik)
     clear hw HHE hcl
     go_wp2_with fail
     go_roundw
     case rel => exact ⟨q + 1, by have := HQL.out; omega, by go_num, HK7, HE7⟩
     case measure => simp [intOf]; have := HQL.out; omega
    ·obtain rfl : q = es.length := by omega
     have hlt' : ¬ (es.length : Int) < es.length := by omega
     have hfin := HKQ.out
     rw [List.take_length] at hfin
     have HFN := hid hfin
     clear hfin hlt
     go_wp2_with fail
     go_end0
     refine ⟨rfl, [J.mk 24 ((m.L.length + 3 + sumR 7 b.l : Nat) : Int) 0 ⟨#[]⟩ m.ln] ++ cb ++ [J.mk 26 0 0 ⟨#[]⟩ m.ln] ++ [J.mk 6 ((p + 1 + sumR 8 r + 1 : Nat) : Int) 0 ⟨#[]⟩ m.ln] ++ c ((p + 1 + sumR 8 r + 1 : Nat) : Int) ++ [J.mk 31 0 0 ⟨#[]⟩ m.ln], nb2, by have := HCB.out.1; have := HS5.out.1; omega, ?_, HFN.out.cast ?_⟩
     ·rw [show 4 + sumR 7 b.l + sumR 8 r = sumR 7 b.l + 3 + sumR 8 r + 1 by omega]
      have h0 := HCB.out.2.mono (QL := fun z => z = m.ln ∨ LnOf (b :: r) z) (fun z hz => .inr (hz.mono fun y hy => by rw [walkL, Nd.walk_eq b]; simp [hy])) HS5.out.1.1
      have h1 := HS5.out.2.1 ((p + 1 + sumR 8 r + 1 : Nat) : Int)
      rw [← HPP.out, show m.L.length + 2 + sumR 7 b.l + 1 = m.L.length + (sumR 7 b.l + 3) by omega] at h1 ⊢
      exact FC.try (a3 := 0) h0 h1 (by omega) (by omega) (.inl rfl) (.inl rfl) (.inl rfl) (.inl rfl)
     ·have h := HS5.out.2.2.1 ((p + 1 + sumR 8 r + 1 : Nat) : Int) [J.mk 31 0 0 ⟨#[]⟩ m.ln]
      rw [HLL.out] at h
      rw [HEL2.out, h, ← HPD.out]
      simp
end
end Go.Proofs.YtbegahbagnflnaaGreatDoor
