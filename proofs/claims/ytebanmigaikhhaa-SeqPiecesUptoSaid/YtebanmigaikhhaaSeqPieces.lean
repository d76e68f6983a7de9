/- The statement SeqPieces, walked. -/
import Derived.Test.YtebanmigaikhhaaSeqFirst
import Derived.Test.YtebanmigaikhhaaValSame
import Derived.Test.YtebanmigaikhhaaRefSame
import Derived.Test.YtebanmigaikhhaaRefL
import Derived.Test.YtebanmigaikhhaaNumber
import Derived.Test.YtebanmigaikhhaaPair
namespace Go.Proofs.Ytebanmigaikhhaa
open Go.RowKit

theorem own_base4 {w : World} {b b' e size n : Nat} {v : Value} {xs : List Value} (h : w.ownsRow b e size v n xs) (hb : b' ≤ b) : w.ownsRow b' e size v n xs := by
  refine ⟨h.1, ?_⟩
  rcases h.2 with h' | ⟨g, cap, cur, a, b, c⟩
  · exact .inl h'
  · exact .inr ⟨g, cap, cur, a, Nat.le_trans hb b, c⟩
theorem deepL_app (l m : List V) : deepL (l ++ m) = max (deepL l) (deepL m) := by
  induction l with
  | nil => simp [deepL]
  | cons x r ih => simp only [List.cons_append, deepL, ih]; omega
theorem deepL_drop (l : List V) (k : Nat) : deepL (l.take k) ≤ deepL l ∧ deepL (l.drop k) ≤ deepL l := by
  have := deepL_app (l.take k) (l.drop k)
  rw [List.take_append_drop] at this
  omega
theorem pMade_ok {l : List V} (h1 : 1 + deepL l ≤ 40) (h2 : 1 + sizeL l ≤ 4096) : pMade l = (l, 0) := by
  have hm : mcode l = 0 := by unfold mcode; rw [if_neg (by omega), if_neg (by omega)]
  unfold pMade mlist
  rw [hm]
  rfl
/-- A piece of a right list is made. -/
theorem pMade_take {l : List V} (h : rightL l = true) (k : Nat) : pMade (l.take k) = (l.take k, 0) := by
  obtain ⟨a, b, -⟩ := rightL_ok h
  have h1 := deepL_drop l k
  have h2 := sizeL_drop l k
  exact pMade_ok (by omega) (by omega)
theorem pMade_drop {l : List V} (h : rightL l = true) (k : Nat) : pMade (l.drop k) = (l.drop k, 0) := by
  obtain ⟨a, b, -⟩ := rightL_ok h
  have h1 := deepL_drop l k
  have h2 := sizeL_drop l k
  exact pMade_ok (by omega) (by omega)
theorem pCut_first {l : List V} (h : rightL l = true) (k : Nat) (hk : k ≤ l.length) : pCut l 1 k = (l.take k, 0) := by
  unfold pCut
  by_cases h0 : (k : Int) < 1
  · have : k = 0 := by omega
    subst this
    rw [if_pos h0]
    rfl
  · rw [if_neg h0, if_neg (by omega)]
    exact pMade_take h k
theorem pCut_rest {l : List V} (h : rightL l = true) (k : Nat) (hk : k ≤ l.length) : pCut l ((k : Int) + 1) l.length = (l.drop k, 0) := by
  unfold pCut
  by_cases h0 : (l.length : Int) < (k : Int) + 1
  · have : k = l.length := by omega
    rw [if_pos h0, List.drop_of_length_le (by omega)]
  · rw [if_neg h0, if_neg (by omega), show ((k : Int) + 1 - 1).toNat = k by omega, show ((l.length : Int)).toNat = l.length from rfl, List.take_length]
    exact pMade_drop h k
theorem pCat_both {l : List V} (h : rightL l = true) (k : Nat) : pCat (l.take k) (l.drop k) = (l, 0) := by
  obtain ⟨a, b, -⟩ := rightL_ok h
  unfold pCat
  rw [List.take_append_drop]
  exact pMade_ok a b
theorem pIns_at (l : List V) (x : V) (k : Nat) (hk : k ≤ l.length) : pIns l x ((k : Int) + 1) = pMade (l.take k ++ x :: l.drop k) := by
  have : pAt l ((k : Int) + 1) = k := by unfold pAt; omega
  unfold pIns
  rw [this]
theorem mcode_ins (l : List V) (x : V) (k : Nat) : mcode (l.take k ++ x :: l.drop k) = mcode (l ++ [x]) := by
  have h1 := deepL_app (l.take k) (l.drop k)
  have h2 := sizeL_drop l k
  rw [List.take_append_drop] at h1
  have hd : deepL (l.take k ++ x :: l.drop k) = deepL (l ++ [x]) := by rw [deepL_app, deepL_app, deepL, deepL, deepL, h1]; omega
  have hs : sizeL (l.take k ++ x :: l.drop k) = sizeL (l ++ [x]) := by rw [sizeL_app, sizeL_app, sizeL, sizeL, sizeL]; omega
  unfold mcode
  rw [hd, hs]
theorem mcode_le (l : List V) : mcode l = 0 ∨ mcode l = 9 ∨ mcode l = 14 := by
  unfold mcode
  split
  · exact .inr (.inl rfl)
  · split
    · exact .inr (.inr rfl)
    · exact .inl rfl
theorem mcode_zero {l : List V} (h : mcode l = 0) : 1 + deepL l ≤ 40 ∧ 1 + sizeL l ≤ 4096 := by
  unfold mcode at h
  split at h
  · omega
  · split at h
    · omega
    · omega
/-- What was laid there is there, and without it it is as it was. -/
theorem ins_get {l : List V} (h : rightL l = true) (x : V) (k : Nat) (hk : k ≤ l.length) : pGet (l.take k ++ x :: l.drop k) ((k : Int) + 1) = (x, 0) ∧ pDel (l.take k ++ x :: l.drop k) ((k : Int) + 1) = (l, 0) := by
  have hl : (l.take k).length = k := by simp; omega
  have ht : isThere (l.take k ++ x :: l.drop k) ((k : Int) + 1) = true := by
    unfold isThere
    simp
    omega
  obtain ⟨a, b, -⟩ := rightL_ok h
  constructor
  · unfold pGet
    rw [if_pos ht, show ((k : Int) + 1 - 1).toNat = k by omega, List.getD, List.getElem?_append_right (by omega), hl, Nat.sub_self]
    rfl
  · unfold pDel
    rw [if_pos ht, show ((k : Int) + 1 - 1).toNat = k by omega, show ((k : Int) + 1).toNat = k + 1 by omega]
    have e1 : (l.take k ++ x :: l.drop k).take k = l.take k := by rw [List.take_append_of_le_length (by omega), List.take_of_length_le (by omega)]
    have e2 : (l.take k ++ x :: l.drop k).drop (k + 1) = l.drop k := by
      rw [List.drop_append, hl, List.drop_of_length_le (by omega), show k + 1 - k = 1 by omega]
      rfl
    rw [e1, e2, List.take_append_drop]
    exact pMade_ok a b

set_option maxRecDepth 100000 in
set_option maxHeartbeats 6400000 in
theorem seqPieces_any (l : List V) (x : V) (v : Value) (u : Array Value) (n : Int) (b0 : -9223372036854775808 ≤ n) (c0 : n ≤ 9223372036854775807) (w : World) (h : VL T w l v) (hx : VIn T w x u) (hl : sizeL l ≤ 1048576) (hxs : x.size ≤ 1048576) :
    Calls Try.prog 4 #[v, .int .i64 n, .agg u] w fun e w' => e = .returned (.bool true) ∧ Fr (fun _ => False) w w' := by
  have hll := len_le_sizeL l
  obtain ⟨v9, rfl, a9, c9, us9, rfl, -⟩ := hx.open
  have hf := (Fr.refl (fun _ => False) w).alloc (.cells #[.int .i64 x.k, .int .i64 x.n, .string x.s, .slice a9 x.l.length c9] 30)
  have hr := heap_alloc_new w (.cells #[.int .i64 x.k, .int .i64 x.n, .string x.s, .slice a9 x.l.length c9] 30)
  obtain ⟨a, c, us, rfl, hlc, hcm, -⟩ := id h
  have hI : (l.length : Int) ≤ 1048576 := by omega
  have HF := hid hf; have HR := hid hr; have HV := hid h; have HX := hid hx; have HL := hid hl; have HXS := hid hxs; have B0 := hid b0; have C0 := hid c0
  clear hf hr h hx hl hxs hll b0 c0
  go_enter Try.func4, Try.ntmps4
  go_wp2_with fail
  refine (first_any _).mono ?_
  rintro e w1 ⟨rfl, hf1⟩
  have HF1 := hid (HF.out.trans' hf1)
  have HR1 := hid (hf1.heap HR.out not_false)
  clear hf1 HF HR
  go_wp2_with fail
  refine (rights_any 40 l (by have := HL.out; omega) T _ _ (HV.out.fr HF1.out)).mono ?_
  rintro e w2 ⟨rfl, hf2⟩
  have HF2 := hid (HF1.out.trans' hf2)
  have HR2 := hid (hf2.heap HR1.out not_false)
  clear hf2 HF1 HR1
  by_cases hsm : (decide (l.length ≤ 40) && l.all V.right) = true
  · rw [hsm]
    go_wp2_with fail
    refine (right_any l _ _ (HV.out.fr HF2.out) (by have := HL.out; omega)).mono ?_
    rintro e w3 ⟨rfl, hf3⟩
    have HF3 := hid (HF2.out.trans' hf3)
    have HR3 := hid (hf3.heap HR2.out not_false)
    clear hf3 HF2 HR2
    by_cases hrl : rightL l = true
    · rw [hrl]
      have z0 : w3.cell? ⟨w.heap.size, 0, none⟩ = some (.int .i64 x.k) := by rw [cell_of_row _ _ 0 _ _ _ HR3.out]; rfl
      have z1 : w3.cell? ⟨w.heap.size, 1, none⟩ = some (.int .i64 x.n) := by rw [cell_of_row _ _ 1 _ _ _ HR3.out]; rfl
      have z2 : w3.cell? ⟨w.heap.size, 2, none⟩ = some (.string x.s) := by rw [cell_of_row _ _ 2 _ _ _ HR3.out]; rfl
      have z3 : w3.cell? ⟨w.heap.size, 3, none⟩ = some (.slice a9 x.l.length c9) := by rw [cell_of_row _ _ 3 _ _ _ HR3.out]; rfl
      go_wp2_with fail
      refine (rright_any x (by have := HXS.out; omega) T _ _ (HX.out.fr HF3.out)).mono ?_
      rintro e w4 ⟨rfl, hf4⟩
      have HF4 := hid (HF3.out.trans' hf4)
      have HR4 := hid (hf4.heap HR3.out not_false)
      clear hf4 HF3 HR3 z0 z1 z2 z3
      by_cases hrx : x.right = true
      · rw [hrx]
        obtain ⟨k, hk⟩ : ∃ k : Nat, n % ((l.length : Int) + 1) = k := ⟨(n % ((l.length : Int) + 1)).toNat, by have := Int.emod_nonneg n (show (l.length : Int) + 1 ≠ 0 by omega); omega⟩
        have hkl : k ≤ l.length := by have := Int.emod_lt_of_pos n (show (0 : Int) < (l.length : Int) + 1 by omega); omega
        have hp1 := pCut_first hrl k hkl
        have hp2 := pCut_rest hrl k hkl
        have hp3 := pCat_both hrl k
        have HK := hid hk; have HP1 := hid hp1; have HP2 := hid hp2; have HP3 := hid hp3; have HRL := hid hrl; have HRX := hid hrx
        have hs1 : sizeL (l.take k) ≤ 1048576 ∧ sizeL (l.drop k) ≤ 1048576 := by have := sizeL_drop l k; have := HL.out; omega
        have HS1 := hid hs1
        have HL1 := hid (show (l.take k).length = k by simp; omega)
        have HL2 := hid (show (l.drop k).length = l.length - k by simp)
        clear hk hp1 hp2 hp3 hrl hrx hsm hs1
        go_wp2_with fail
        refine (number_any n _ _ (by omega) (by omega) B0.out C0.out).mono ?_
        rintro e w5 ⟨rfl, rfl⟩
        rw [HK.out]
        go_wp2_with fail
        refine (cut_any l _ 1 k _ (HV.out.fr HF4.out) (by have := HL.out; omega)).mono ?_
        rintro e w6 ⟨v6, rfl, hf6, hv6⟩
        rw [HP1.out] at hv6 ⊢
        obtain ⟨a6, c6, us6, rfl, -⟩ := id hv6
        rw [HL1.out] at hv6 ⊢
        have HF6 := hid (HF4.out.trans' hf6)
        have HR6 := hid (hf6.heap HR4.out not_false)
        have HV6 := hid hv6
        clear hf6 hv6 HF4 HR4
        go_wp2_with fail
        refine (cut_any l _ _ _ _ (HV.out.fr HF6.out) (by have := HL.out; omega)).mono ?_
        rintro e w7 ⟨v7, rfl, hf7, hv7⟩
        rw [HP2.out] at hv7 ⊢
        obtain ⟨a7, c7, us7, rfl, -⟩ := id hv7
        rw [HL2.out] at hv7 ⊢
        have HF7 := hid (HF6.out.trans' hf7)
        have HR7 := hid (hf7.heap HR6.out not_false)
        have HV6' := hid (HV6.out.fr hf7)
        have HV7 := hid hv7
        clear hf7 hv7 HF6 HR6 HV6
        go_wp2_with fail
        refine (cat_any _ _ _ _ _ HV6'.out HV7.out (by have := HS1.out; omega) (by have := HS1.out; omega)).mono ?_
        rintro e w8 ⟨v8, rfl, hf8, hv8⟩
        rw [HP3.out] at hv8 ⊢
        obtain ⟨a8, c8, us8, rfl, -⟩ := id hv8
        have HF8 := hid (HF7.out.trans' hf8)
        have HR8 := hid (hf8.heap HR7.out not_false)
        have HV8 := hid hv8
        clear hf8 hv8 HF7 HR7 HV6' HV7
        go_wp2_with fail
        refine (rsames_of (sizeL l) (rsame_refl (sizeL l)) l (Nat.le_refl _) T T _ _ _ HV8.out (HV.out.fr HF8.out)).mono ?_
        rintro e w9 ⟨rfl, hf9⟩
        have HF9 := hid (HF8.out.trans' hf9)
        have hr9 := hf9.heap HR8.out not_false
        have HR9 := hid hr9
        have z0 : w9.cell? ⟨w.heap.size, 0, none⟩ = some (.int .i64 x.k) := by rw [cell_of_row _ _ 0 _ _ _ hr9]; rfl
        have z1 : w9.cell? ⟨w.heap.size, 1, none⟩ = some (.int .i64 x.n) := by rw [cell_of_row _ _ 1 _ _ _ hr9]; rfl
        have z2 : w9.cell? ⟨w.heap.size, 2, none⟩ = some (.string x.s) := by rw [cell_of_row _ _ 2 _ _ _ hr9]; rfl
        have z3 : w9.cell? ⟨w.heap.size, 3, none⟩ = some (.slice a9 x.l.length c9) := by rw [cell_of_row _ _ 3 _ _ _ hr9]; rfl
        clear hf9 hr9 HF8 HR8 HV8
        obtain ⟨L, hL⟩ : ∃ L, l.take k ++ x :: l.drop k = L := ⟨_, rfl⟩
        have hpi := pIns_at l x k hkl
        have hgd := ins_get HRL.out x k hkl
        have hmi := mcode_ins l x k
        have hlen : L.length = l.length + 1 := by rw [← hL, List.length_append, List.length_cons, HL1.out, HL2.out]; omega
        have hsL : sizeL L ≤ 4194304 := by
          have h1 := sizeL_drop l k
          have h2 := HL.out
          have h3 := HXS.out
          rw [← hL, sizeL_app, sizeL]
          omega
        rw [hL] at hpi hgd hmi
        have HPI := hid hpi; have HGD := hid hgd; have HMI := hid hmi; have HLEN := hid hlen; have HSL := hid hsL
        clear hL hpi hgd hmi hlen hsL HP1 HP2 HP3 HS1
        go_wp2_with fail
        refine (insert_any l x _ _ ((k : Int) + 1) _ (HV.out.fr HF9.out) (HX.out.fr HF9.out) (by have := HL.out; omega) (by have := HXS.out; omega)).mono ?_
        rintro e w10 ⟨v10, rfl, hf10, hv10⟩
        rw [HPI.out] at hv10 ⊢
        have HF10 := hid (HF9.out.trans' hf10)
        have hr10 := hf10.heap HR9.out not_false
        have HR10 := hid hr10
        clear hf10 HF9 HR9 z0 z1 z2 z3
        have z0 : w10.cell? ⟨w.heap.size, 0, none⟩ = some (.int .i64 x.k) := by rw [cell_of_row _ _ 0 _ _ _ hr10]; rfl
        have z1 : w10.cell? ⟨w.heap.size, 1, none⟩ = some (.int .i64 x.n) := by rw [cell_of_row _ _ 1 _ _ _ hr10]; rfl
        have z2 : w10.cell? ⟨w.heap.size, 2, none⟩ = some (.string x.s) := by rw [cell_of_row _ _ 2 _ _ _ hr10]; rfl
        have z3 : w10.cell? ⟨w.heap.size, 3, none⟩ = some (.slice a9 x.l.length c9) := by rw [cell_of_row _ _ 3 _ _ _ hr10]; rfl
        clear hr10
        by_cases hm : mcode L = 0
        · have hml : pMade L = (L, 0) := pMade_ok (mcode_zero hm).1 (mcode_zero hm).2
          rw [hml] at hv10 ⊢
          obtain ⟨a10, c10, us10, rfl, -⟩ := id hv10
          rw [HLEN.out] at hv10 ⊢
          have HV10 := hid hv10
          clear hv10 hm hml
          go_wp2_with fail
          refine (get_any L _ ((k : Int) + 1) _ HV10.out (by have := HSL.out; omega)).mono ?_
          rintro e w11 ⟨u11, rfl, hf11, hx11⟩
          rw [HGD.out.1] at hx11 ⊢
          replace hx11 : VIn T w11 x u11 := hx11
          obtain ⟨v11, rfl, a11, c11, us11, rfl, -⟩ := hx11.open
          have hfa := hf11.alloc (.cells #[.int .i64 x.k, .int .i64 x.n, .string x.s, .slice a11 x.l.length c11] 30)
          have hra := heap_alloc_new w11 (.cells #[.int .i64 x.k, .int .i64 x.n, .string x.s, .slice a11 x.l.length c11] 30)
          have HFA := hid (HF10.out.trans' hfa)
          have HRA := hid hra
          have HRB := hid (hfa.heap HR10.out not_false)
          have HX11 := hid (hx11.fr ((Fr.refl (fun _ => False) w11).alloc (.cells #[.int .i64 x.k, .int .i64 x.n, .string x.s, .slice a11 x.l.length c11] 30)))
          have HV11 := hid (HV10.out.fr hfa)
          clear hf11 hx11 hfa hra HF10 HR10 HV10 z0 z1 z2 z3
          go_wp2_with fail
          refine (delete_any L _ ((k : Int) + 1) _ HV11.out (by have := HSL.out; omega)).mono ?_
          rintro e w12 ⟨v12, rfl, hf12, hv12⟩
          rw [HGD.out.2] at hv12 ⊢
          replace hv12 : VL T w12 l v12 := hv12
          obtain ⟨a12, c12, us12, rfl, -⟩ := id hv12
          have HF12 := hid (HFA.out.trans' hf12)
          have hr1 := hf12.heap HRA.out not_false
          have hr2 := hf12.heap HRB.out not_false
          have HX12 := hid (HX11.out.fr hf12)
          have HV12 := hid hv12
          clear hf12 hv12 HFA HX11 HV11 HRA HRB
          have y0 : w12.cell? ⟨w11.heap.size, 0, none⟩ = some (.int .i64 x.k) := by rw [cell_of_row _ _ 0 _ _ _ hr1]; rfl
          have y1 : w12.cell? ⟨w11.heap.size, 1, none⟩ = some (.int .i64 x.n) := by rw [cell_of_row _ _ 1 _ _ _ hr1]; rfl
          have y2 : w12.cell? ⟨w11.heap.size, 2, none⟩ = some (.string x.s) := by rw [cell_of_row _ _ 2 _ _ _ hr1]; rfl
          have y3 : w12.cell? ⟨w11.heap.size, 3, none⟩ = some (.slice a11 x.l.length c11) := by rw [cell_of_row _ _ 3 _ _ _ hr1]; rfl
          have z0 : w12.cell? ⟨w.heap.size, 0, none⟩ = some (.int .i64 x.k) := by rw [cell_of_row _ _ 0 _ _ _ hr2]; rfl
          have z1 : w12.cell? ⟨w.heap.size, 1, none⟩ = some (.int .i64 x.n) := by rw [cell_of_row _ _ 1 _ _ _ hr2]; rfl
          have z2 : w12.cell? ⟨w.heap.size, 2, none⟩ = some (.string x.s) := by rw [cell_of_row _ _ 2 _ _ _ hr2]; rfl
          have z3 : w12.cell? ⟨w.heap.size, 3, none⟩ = some (.slice a9 x.l.length c9) := by rw [cell_of_row _ _ 3 _ _ _ hr2]; rfl
          clear hr1 hr2
          go_wp2_with fail
          refine (vsame_refl x.size x (Nat.le_refl _) T T _ _ _ HX12.out (HX.out.fr HF12.out)).mono ?_
          rintro e w13 ⟨rfl, hf13⟩
          have HF13 := hid (HF12.out.trans' hf13)
          have HV13 := hid (HV12.out.fr hf13)
          clear hf13 HF12 HV12 HX12 y0 y1 y2 y3 z0 z1 z2 z3
          go_wp2_with fail
          refine (rsames_of (sizeL l) (rsame_refl (sizeL l)) l (Nat.le_refl _) T T _ _ _ HV13.out (HV.out.fr HF13.out)).mono ?_
          rintro e w14 ⟨rfl, hf14⟩
          have HF14 := hid (HF13.out.trans' hf14)
          clear hf14
          go_wp2_with fail
          go_ret
          exact ⟨rfl, HF14.out⟩
        · obtain ⟨a10, c10, us10, hv10e, -⟩ := id hv10
          have hml : (pMade L).1 = [] := by unfold pMade mlist; rw [if_neg hm]
          rw [hml] at hv10e
          subst hv10e
          obtain ⟨m, hmm⟩ : ∃ m : Nat, mcode L = m := ⟨_, rfl⟩
          have hp2 : (pMade L).2 = (m : Int) := by rw [← hmm]; rfl
          rw [hp2]
          have hmz : ((m : Int) != 0) = true := by simp; omega
          have hkd : kindedL (l ++ [x]) := kindedL_all fun y hy => by
            rcases List.mem_append.1 hy with hy | hy
            · exact kindedL_mem (rightL_ok HRL.out).2.2.1 hy
            · simp at hy; subst hy; exact (right_ok HRX.out).2.2
          have hsz : sizeL (l ++ [x]) ≤ 2097152 := by
            have h2 := HL.out
            have h3 := HXS.out
            rw [sizeL_app, sizeL, sizeL]
            omega
          rw [hmm] at HMI
          have HKD := hid hkd; have HSZ := hid hsz
          clear hp2 hml hv10 hm hmm hkd hsz
          go_upto_region 15 with fail
          have hx10 := (HX.out.fr HF10.out).lt
          have hv10 := HV.out.fr HF10.out
          have hs10 : w.heap.size < w10.heap.size := heap_lt HR10.out
          refine wp_region_pair [(0, 0), (1, 0), (3, 0), (2, 7), (5, 1), (6, 1), (7, 1), (8, 0), (9, 0)] (fun w' => Fr (fun _ => False) w10 w') (by kernel_rfl) (by kernel_rfl) (by kernel_rfl) rfl (fun _ _ d _ _ h => by cases d <;> exact h) (Fr.refl _ _).drew ?_
          iterate 3 (refine wpP_take ?_ rfl (by kernel_rfl) ?_ ?_; rotate_left; (· intro w' hS; have hS1 := Fr.cell hS z0 not_false; have hS2 := Fr.cell hS z1 not_false; have hS3 := Fr.cell hS z2 not_false; have hS4 := Fr.cell hS z3 not_false; go_simp; try with_reducible rfl); try simp only [Act.put, List.setIfInBounds_toArray, List.set_cons_zero, List.set_cons_succ])
          refine wpP_pair' (fun u v w' => ∃ us g, v = .slice (some ⟨g, 0, none⟩) 1 1 ∧ w'.heap[g]? = some (.cells #[.int .i64 x.k, .int .i64 x.n, .string x.s, .slice a9 x.l.length c9] 30) ∧ w'.ownsRow w10.heap.size 30 4 u l.length us ∧ VC (fun q => u.ownBlock ≠ some q) w' l us ∧ u.ownBlock ≠ some g) rfl rfl (by kernel_rfl) (by kernel_rfl) (fun _ => by kernel_rfl) (fun _ => by kernel_rfl) (fun _ _ => rfl) ?_ ?_ ?_
          · intro K1 hK1
            go_simp
            refine (rvaluesO_of (sizeL l) (rvalue_any (sizeL l)) l (Nat.le_refl _) (by have := HL.out; omega) T _ _ (hv10.fr (Fr.refl (fun _ => False) w10).drew)).mono ?_
            rintro e w11 ⟨v11, rfl, hf11, hvo⟩
            obtain ⟨us, ho, hul, hui⟩ := hvo.vc
            have hS := (Fr.refl (fun _ => False) w10).drew.trans' hf11
            have y0 := hS.cell z0 not_false
            have y1 := hS.cell z1 not_false
            have y2 := hS.cell z2 not_false
            have y3 := hS.cell z3 not_false
            have hlt := ho.lt
            have hfc := (Fr.refl (fun _ => False) w11).alloc (.cells #[.int .i64 x.k, .int .i64 x.n, .string x.s, .slice a9 x.l.length c9] 30)
            have hrb := heap_alloc_new w11 (.cells #[.int .i64 x.k, .int .i64 x.n, .string x.s, .slice a9 x.l.length c9] 30)
            have ho2 := hfc.own ho fun _ _ => not_false
            have hvc2 : VC (fun q => v11.ownBlock ≠ some q) (w11.alloc (.cells #[.int .i64 x.k, .int .i64 x.n, .string x.s, .slice a9 x.l.length c9] 30)) l us :=
              (VC.mono (D := fun b => w10.drew.heap.size ≤ b ∧ b < w11.heap.size ∧ v11.ownBlock ≠ some b) ⟨hul, hui⟩ fun q _ hq => hq.2.2).frame hfc fun _ _ => not_false
            refine hK1 v11 w11 hS (fun K2 hK2 => ?_)
            go_simp
            exact hK2 _ _ (hS.trans' hfc) ⟨us, _, rfl, hrb, ho2, hvc2, fun e => by have := (hlt _ e).2; omega⟩
          · intro K1 hK1
            have y0 := (Fr.refl (fun _ => False) w10).drew.cell z0 not_false
            have y1 := (Fr.refl (fun _ => False) w10).drew.cell z1 not_false
            have y2 := (Fr.refl (fun _ => False) w10).drew.cell z2 not_false
            have y3 := (Fr.refl (fun _ => False) w10).drew.cell z3 not_false
            have hfc := (Fr.refl (fun _ => False) w10).drew.alloc (.cells #[.int .i64 x.k, .int .i64 x.n, .string x.s, .slice a9 x.l.length c9] 30)
            have hrb := heap_alloc_new w10.drew (.cells #[.int .i64 x.k, .int .i64 x.n, .string x.s, .slice a9 x.l.length c9] 30)
            go_simp
            refine hK1 _ _ hfc (fun K2 hK2 => ?_)
            go_simp
            refine (rvaluesO_of (sizeL l) (rvalue_any (sizeL l)) l (Nat.le_refl _) (by have := HL.out; omega) T _ _ (hv10.fr hfc)).mono ?_
            rintro e w11 ⟨v11, rfl, hf11, hvo⟩
            obtain ⟨us, ho, hul, hui⟩ := hvo.vc
            have hlt := ho.lt
            have hsz : (w10.drew.alloc (.cells #[.int .i64 x.k, .int .i64 x.n, .string x.s, .slice a9 x.l.length c9] 30)).heap.size = w10.heap.size + 1 := by simp
            have hvc2 : VC (fun q => v11.ownBlock ≠ some q) w11 l us :=
              VC.mono (D := fun b => _ ≤ b ∧ b < w11.heap.size ∧ v11.ownBlock ≠ some b) ⟨hul, hui⟩ fun q _ hq => hq.2.2
            exact hK2 _ _ (hfc.trans' hf11) ⟨us, _, rfl, hf11.heap hrb not_false, own_base4 ho (by rw [hsz]; omega), hvc2, fun e => by have := (hlt _ e).1; rw [hsz] at this; have h9 : w10.drew.heap.size = w10.heap.size := rfl; omega⟩
          · rintro v11 v12 W hS ⟨us, g, rfl, hrb, ho2, hvc2, hne⟩
            obtain ⟨a11, c11, hve⟩ : ∃ a11 c11, v11 = .slice a11 l.length c11 := by
              rcases ho2.2 with ⟨e, h0⟩ | ⟨g, cap, cur, e, _⟩
              · exact ⟨_, _, by rw [e, h0]⟩
              · exact ⟨_, _, e⟩
            have hlt : ∀ q, v11.ownBlock = some q → w10.heap.size ≤ q ∧ q < W.heap.size := ho2.lt
            have hxl : VL (fun q => v11.ownBlock ≠ some q) W [x] (.slice (some ⟨g, 0, none⟩) 1 1) := VL.lit ((hx10.frame hS fun _ _ => not_false).mono fun q _ hq e => by have := (hlt q e).1; omega) hrb hne
            obtain ⟨v13, w13, us13, hrun, ho13, hc13, hf13, hn13, -⟩ := run_appendVL W w10.heap.size v11 _ l [x] us _ ho2 hvc2 hxl (fun q hq hne => hne hq) (by have := HL.out; simp; omega) hS.size 22
            have hq13 : ∀ q, q < w10.heap.size → ¬ some q = v11.ownBlock := fun q hq e => by have := (hlt q e.symm).1; omega
            have hv13 := hc13.own ho13
            have hS13 := hS.trans hf13 (U := fun _ => False) (fun _ _ h => h) (fun q hq e => hq13 q (by omega) e)
            subst hve
            obtain ⟨a13, c13, us14, rfl, -⟩ := id hv13
            have hl13 : (l ++ [x]).length = l.length + 1 := by simp
            rw [hl13] at hv13 hrun
            have HV13 := hid hv13.t; have HS13 := hid hS13
            clear hv13 hS13 hc13 ho13 hn13 hxl hvc2 ho2 hlt hrb hf13 hS hq13 hx10 hv10 z0 z1 z2 z3
            try simp only [Act.put, List.setIfInBounds_toArray, List.set_cons_zero, List.set_cons_succ]
            refine wpP_run rfl (by kernel_rfl) (fun K hK => ?_)
            refine Lib.wp_append_run _ (.tmp 98) (.tmp 100) 22 22 rfl _ _ rfl rfl _ _ hrun ?_
            refine hK _ _ (fun _ => HS13.out) ?_
            clear hK K hrun
            try simp only [Act.put, List.setIfInBounds_toArray, List.set_cons_zero, List.set_cons_succ]
            refine wpP_run rfl (by kernel_rfl) (fun K hK => ?_)
            go_simp
            refine (rL_any (l ++ [x]) (by have := HSZ.out; omega) T _ _ HV13.out).mono ?_
            rintro e w15 ⟨u15, rfl, hf15, hv15⟩
            refine hK _ _ (fun _ => HS13.out.trans' hf15) ?_
            clear hK K
            try simp only [Act.put, List.setIfInBounds_toArray, List.set_cons_zero, List.set_cons_succ]
            have HS15 := hid (HS13.out.trans' hf15)
            clear hf15
            refine wpP_run rfl (by kernel_rfl) (fun K hK => ?_)
            go_simp
            refine (rfits_ok (l ++ [x]) HKD.out _ rfl (by rw [V.size, show (ByteArray.size ⟨#[]⟩) = 0 from rfl]; have := HSZ.out; omega) _ _ _ hv15.t).mono ?_
            rw [← HMI.out]
            rintro e w16 ⟨rfl, hf16⟩
            refine hK _ _ (fun _ => HS15.out.trans' hf16) ?_
            clear hK K
            try simp only [Act.put, List.setIfInBounds_toArray, List.set_cons_zero, List.set_cons_succ]
            have HF16 := hid (HF10.out.trans' (HS15.out.trans' hf16))
            clear hf16 hv15
            iterate 2 (refine wpP_take ?_ rfl (by kernel_rfl) ?_ ?_; rotate_left; (· intro w' hS; go_simp; try with_reducible rfl); try simp only [Act.put, List.setIfInBounds_toArray, List.set_cons_zero, List.set_cons_succ])
            refine wpP_end ?_
            go_wp2_with fail
            go_ret
            exact ⟨rfl, HF16.out⟩
      · rw [Bool.eq_false_iff.2 hrx]
        go_wp2_with fail
        go_ret
        exact ⟨rfl, HF4.out⟩
    · rw [Bool.eq_false_iff.2 hrl]
      go_wp2_with fail
      go_ret
      exact ⟨rfl, HF3.out⟩
  · rw [Bool.eq_false_iff.2 hsm]
    go_wp2_with fail
    go_ret
    exact ⟨rfl, HF2.out⟩
end Go.Proofs.Ytebanmigaikhhaa
