/- The document's Get, CutList, Put. -/
import Derived.Test.YtjngddmjgcecnaaRefMade
import Derived.Test.YtjngddmjgcecnaaSeqF
import Derived.Test.YtjngddmjgcecnaaRefValue
namespace Go.Proofs.Ytjngddmjgcecnaa
open Go.RowKit

def pWithin (n : Nat) (i j : Int) : Int := if j < i then 1 else if i < 1 ∨ (n : Int) < j then 2 else 0
set_option maxHeartbeats 800000 in
theorem within_any (n : Nat) (i j : Int) (w : World) (hn : n ≤ 1073741824) : Calls Try.prog 55 #[.int .i64 n, .int .i64 i, .int .i64 j] w fun e w' => e = .returned (.int .i64 (pWithin n i j)) ∧ w = w' := by
  have hI : (n : Int) ≤ 1073741824 := by omega
  obtain ⟨r, hr⟩ : ∃ r, pWithin n i j = r := ⟨_, rfl⟩
  have HR := hid hr
  unfold pWithin at hr
  by_cases h1 : j < i
  · rw [if_pos h1] at hr
    subst hr
    go_enter Try.func55, Try.ntmps55
    go_wp2
    go_ret
    exact ⟨ret_int HR.out.symm, rfl⟩
  · by_cases h2 : i < 1
    · rw [if_neg h1, if_pos (.inl h2)] at hr
      subst hr
      go_enter Try.func55, Try.ntmps55
      go_wp2
      go_ret
      exact ⟨ret_int HR.out.symm, rfl⟩
    · by_cases h3 : (n : Int) < j
      · rw [if_neg h1, if_pos (.inr h3)] at hr
        subst hr
        go_enter Try.func55, Try.ntmps55
        go_wp2
        go_ret
        exact ⟨ret_int HR.out.symm, rfl⟩
      · rw [if_neg h1, if_neg (by omega)] at hr
        subst hr
        go_enter Try.func55, Try.ntmps55
        go_wp2
        go_ret
        exact ⟨ret_int HR.out.symm, rfl⟩

set_option maxRecDepth 100000 in
set_option maxHeartbeats 1600000 in
theorem rcut_any (l : List V) (hK : kindedL l) (v : Value) (i j : Int) (w : World) (h : VL T w l v) (hl : sizeL l ≤ 1073741824) : Calls Try.prog 45 #[v, .int .i64 i, .int .i64 j] w (MadePost w (pCut l i j)) := by
  have hll := len_le_sizeL l
  obtain ⟨a, c, us, rfl, hc, hm, -⟩ := id h
  have hI : (l.length : Int) ≤ 1073741824 := by omega
  have hwi := within_any l.length i j w (by omega)
  unfold pWithin at hwi
  unfold MadePost
  by_cases h1 : j < i
  · have hp : pCut l i j = ([], 0) := by unfold pCut; rw [if_pos h1]
    rw [if_pos h1] at hwi
    have HP := hid hp; have HWI := hid hwi
    clear h hp hl hll hc hm hwi
    go_enter Try.func45, Try.ntmps45
    go_wp2_with fail
    refine HWI.out.mono ?_
    rintro e w2 ⟨rfl, rfl⟩
    go_wp2_with fail
    go_ret2
    exact ⟨_, by rw [HP.out]; rfl, Fr.refl _ _, by rw [HP.out]; exact VL.nil _ _⟩
  · by_cases h2 : i < 1 ∨ (l.length : Int) < j
    · have hp : pCut l i j = ([], 10) := by unfold pCut; rw [if_neg h1, if_pos h2]
      rw [if_neg h1, if_pos h2] at hwi
      have HP := hid hp; have HWI := hid hwi
      clear h hp hl hll hc hm hwi h2
      go_enter Try.func45, Try.ntmps45
      go_wp2_with fail
      refine HWI.out.mono ?_
      rintro e w2 ⟨rfl, rfl⟩
      go_wp2_with fail
      go_ret2
      exact ⟨_, by rw [HP.out]; rfl, Fr.refl _ _, by rw [HP.out]; exact VL.nil _ _⟩
    · obtain ⟨p, rfl⟩ : ∃ p : Nat, i = (p : Int) + 1 := ⟨(i - 1).toNat, by omega⟩
      obtain ⟨q, rfl⟩ : ∃ q : Nat, j = q := ⟨j.toNat, by omega⟩
      have hp : pCut l ((p : Int) + 1) q = pMade ((l.take q).drop p) := by
        unfold pCut
        rw [if_neg h1, if_neg h2, show ((p : Int) + 1 - 1).toNat = p by omega]
        rfl
      have hs : sizeL ((l.take q).drop p) ≤ 1073741824 := by
        have h4 := sizeL_drop (l.take q) p
        have h5 := sizeL_drop l q
        omega
      rw [if_neg h1, if_neg h2] at hwi
      have hkd : kindedL ((l.take q).drop p) := kindedL_all fun y hy => kindedL_mem hK (List.mem_of_mem_take (List.mem_of_mem_drop hy))
      have HLN := hid (show ((l.take q).drop p).length = q - p by simp; omega)
      have HP := hid hp; have HS := hid hs; have HH := hid h; have HWI := hid hwi; have HKD := hid hkd
      have hpq : p ≤ q := by omega
      have hql : q ≤ l.length := by omega
      have hqc : q ≤ c := by omega
      clear hp h hl hll hs hm hwi hkd h2
      go_enter Try.func45, Try.ntmps45
      go_wp2_with fail
      refine HWI.out.mono ?_
      rintro e w2 ⟨rfl, rfl⟩
      go_wp2_with fail
      have hsub := VL.sub (a' := Option.map (fun x => x.add (p * 4)) a) (c' := c - p) (len' := q - p) HH.out p q hpq hql rfl rfl (by rw [if_neg (by omega)])
      have hrv := rvalues_of (sizeL ((l.take q).drop p)) (rvalue_any _) ((l.take q).drop p) (Nat.le_refl _) (by have := HS.out; omega) T w _ hsub
      refine hrv.mono ?_
      rintro e w3 ⟨v', rfl, hf3, hv3⟩
      obtain ⟨a3, c3, us3, rfl, -⟩ := id hv3
      rw [HLN.out] at hv3 ⊢
      have HF3 := hid hf3; have HV3 := hid hv3.t
      clear hsub hf3 hv3
      go_wp2_with fail
      refine (rmade_any _ HKD.out (by have := HS.out; omega) w3 _ HV3.out).mono ?_
      rintro e w4 ⟨v', rfl, hf4, hv4⟩
      have HF4 := hid (HF3.out.trans' hf4); have HV4 := hid hv4
      clear hf4 hv4
      go_wp2_with fail
      go_ret2
      exact ⟨_, by rw [HP.out]; rfl, HF4.out, by rw [HP.out]; exact HV4.out.t⟩

set_option maxRecDepth 100000 in
set_option maxHeartbeats 1600000 in
theorem rget_any (l : List V) (v : Value) (i : Int) (w : World) (h : VL T w l v) (hl : sizeL l ≤ 1073741824) : Calls Try.prog 40 #[v, .int .i64 i] w fun e w' => ∃ u, e = .returned (.tuple #[.agg u, .int .i64 (pGet l i).2]) ∧ Fr (fun _ => False) w w' ∧ VIn T w' (pGet l i).1 u := by
  have hll := len_le_sizeL l
  have hF := (Fr.refl (fun _ => False) w).alloc (.cells #[.int .i64 0, .int .i64 0, .string ⟨#[]⟩, .slice none 0 0] 24)
  have hR := heap_alloc_new w (.cells #[.int .i64 0, .int .i64 0, .string ⟨#[]⟩, .slice none 0 0] 24)
  have HF := hid hF; have HR := hid hR
  have HV := hid h
  obtain ⟨a, cap, us, rfl, hc, hm, hn, hb, hi⟩ := id h
  have HB := hid hb; have HI := hid hi; have HLL := hid hl
  have hlm : (l.length : Int) ≤ 1073741824 := by omega
  clear hF hR h hb hi hn hl hll
  by_cases hth : isThere l i = true
  · obtain ⟨k, rfl, hkl⟩ := there_iff hth
    obtain ⟨b, o, y, a', c', rfl, -, hy, hv, e0, e1, e2, e3⟩ := VL.elem HB.out HI.out k hkl
    replace e0 := HF.out.cell e0 not_false
    replace e1 := HF.out.cell e1 not_false
    replace e2 := HF.out.cell e2 not_false
    replace e3 := HF.out.cell e3 not_false
    have hp : pGet l ((k : Int) + 1) = (y, 0) := by
      unfold pGet
      rw [if_pos hth, show ((k : Int) + 1 - 1).toNat = k by omega, List.getD, hy]
      rfl
    have hf5 := (Fr.refl (fun _ => False) w).alloc (.cells #[.int .i64 y.k, .int .i64 y.n, .string y.s, .slice a' y.l.length c'] 24)
    have hR := heap_alloc_new w (.cells #[.int .i64 y.k, .int .i64 y.n, .string y.s, .slice a' y.l.length c'] 24)
    have HP := hid hp
    have HRR := hid hR
    have HF5 := hid hf5
    have HV5 := hid (hv.fr hf5)
    have hk1 : ¬ (k : Int) + 1 < 1 := by omega
    have hk2 : ¬ (l.length : Int) < (k : Int) + 1 := by omega
    clear hy hv hp hR hf5 hth
    go_enter Try.func40, Try.ntmps40
    go_wp2_with fail
    refine bodyPost_ret (results_ct rfl _ _ w.heap.size _ _ _ _ rfl HRR.out Try.underlying24 rfl (by kernel_rfl)) rfl ?_
    exact ⟨_, by rw [HP.out]; rfl, HF5.out, by rw [HP.out]; exact HV5.out⟩
  · have hp : pGet l i = (V0, 10) := by unfold pGet; rw [if_neg hth]
    have hcase : i < 1 ∨ (1 ≤ i ∧ (l.length : Int) < i) := by
      unfold isThere at hth
      simp at hth
      omega
    have HP := hid hp
    obtain ⟨hR, hf5, z0, z1, z2, z3, zf⟩ := set4 HR.out (.int .i64 0) (.int .i64 0) (.string ⟨#[]⟩) (.slice none 0 0)
    clear hp hR hf5 hth
    rcases hcase with h1 | ⟨h1, h2⟩
    all_goals
      go_enter Try.func40, Try.ntmps40
      go_wp2_with fail
      refine bodyPost_ret (results_ct rfl _ _ w.heap.size _ _ _ _ rfl HR.out Try.underlying24 rfl (by kernel_rfl)) rfl ?_
      exact ⟨_, by rw [HP.out]; rfl, HF.out, by rw [HP.out]; exact (VL.nil T _).close 0 0 ⟨#[]⟩⟩

set_option maxRecDepth 100000 in
set_option maxHeartbeats 1600000 in
theorem rput_any (l : List V) (hK : kindedL l) (x : V) (hKx : x.kinded) (v : Value) (u : Array Value) (i : Int) (w : World) (h : VL T w l v) (hx : VIn T w x u) (hl : sizeL l ≤ 1073741824) (hxs : x.size ≤ 1073741824) : Calls Try.prog 46 #[v, .int .i64 i, .agg u] w (MadePost w (pPut l i x)) := by
  have hll := len_le_sizeL l
  obtain ⟨v9, rfl, a9, c9, us9, rfl, -⟩ := hx.open
  have hf := (Fr.refl (fun _ => False) w).alloc (.cells #[.int .i64 x.k, .int .i64 x.n, .string x.s, .slice a9 x.l.length c9] 24)
  have hr := heap_alloc_new w (.cells #[.int .i64 x.k, .int .i64 x.n, .string x.s, .slice a9 x.l.length c9] 24)
  have hlt : ∀ k, k < w.heap.size → k < (w.alloc (.cells #[.int .i64 x.k, .int .i64 x.n, .string x.s, .slice a9 x.l.length c9] 24)).heap.size := fun k hk => Nat.lt_of_lt_of_le hk hf.size
  have hcl := rvaluesO_of (sizeL l) (rvalue_any (sizeL l)) l (Nat.le_refl _) (by omega) T _ _ (h.fr hf)
  have hxv := hx.lt.frame hf fun _ _ => not_false
  obtain ⟨a, c, us, rfl, -⟩ := id h
  have hI : (l.length : Int) ≤ 1073741824 := by omega
  have HF := hid hf; have HR := hid hr; have HLT := hid hlt; have HCL := hid hcl; have HX := hid hxv; have HL := hid hl; have HXS := hid hxs; have HK := hid hK; have HKX := hid hKx
  unfold MadePost
  clear hf hr hlt hcl hxv h hx hl hxs hll hK hKx
  by_cases ht : isThere l i = true
  · obtain ⟨k, rfl, hk⟩ := there_iff ht
    have hp : pPut l ((k : Int) + 1) x = pMade (l.set k x) := by
      unfold pPut
      rw [if_pos ht, show ((k : Int) + 1 - 1).toNat = k by omega]
    have HP := hid hp
    have hk1 : ¬ (k : Int) + 1 < 1 := by omega
    have hk2 : ¬ (l.length : Int) < (k : Int) + 1 := by omega
    clear hp ht
    have hr0 := HR.out
    go_enter Try.func46, Try.ntmps46
    go_wp2_with fail
    refine HCL.out.mono ?_
    rintro e w3 ⟨v3, rfl, hf3, hvo⟩
    obtain ⟨us3, ho3, hul, hui⟩ := hvo.vc
    obtain ⟨g, cap, rfl⟩ : ∃ g cap, v3 = .slice (some ⟨g, 0, none⟩) l.length cap := by
      rcases ho3.2 with ⟨_, h0⟩ | ⟨g, cap, cur, e, _⟩
      · omega
      · exact ⟨g, cap, e⟩
    obtain ⟨⟨z0, hz0⟩, ⟨z1, hz1⟩, ⟨z2, hz2⟩, ⟨z3, hz3⟩, hzf, hbg, hcap, hf5⟩ := own_cell4 ho3 k hk (.int .i64 x.k) (.int .i64 x.n) (.string x.s) (.slice a9 x.l.length c9)
    have ho5 := own_set ho3 k hk (.int .i64 x.k) (.int .i64 x.n) (.string x.s) (.slice a9 x.l.length c9)
    have hnd : ∀ q, q < w.heap.size → ¬ q = g := fun q hq e => by have := HLT.out q hq; omega
    have hc3 : VC (fun q => q ≠ g) w3 l us3 := VC.mono (D := fun b => (w.alloc (.cells #[.int .i64 x.k, .int .i64 x.n, .string x.s, .slice a9 x.l.length c9] 24)).heap.size ≤ b ∧ b < w3.heap.size ∧ Value.ownBlock (.slice (some ⟨g, 0, none⟩) l.length cap) ≠ some b) ⟨hul, hui⟩ fun q _ hq e => hq.2.2 (by rw [e]; rfl)
    have hc5 := (hc3.set k x hk (.int .i64 x.k) (.int .i64 x.n) (.string x.s) (.slice a9 x.l.length c9) ((HX.out.frame hf3 fun _ _ => not_false).mono fun q _ hq => hnd q hq)).frame hf5 (fun q hq => hq)
    have hv5 := hc5.own (l := l.set k x) (by rw [List.length_set]; exact ho5)
    have hF5 := (HF.out.trans' hf3).trans hf5 (U := fun _ => False) (fun _ _ h => h) (fun q hq e => by have := hnd q hq; omega)
    have hr3 := hf3.heap HR.out not_false
    have y0 : w3.cell? ⟨w.heap.size, 0, none⟩ = some (.int .i64 x.k) := by rw [cell_of_row _ _ 0 _ _ _ hr3]; rfl
    have y1 : w3.cell? ⟨w.heap.size, 1, none⟩ = some (.int .i64 x.n) := by rw [cell_of_row _ _ 1 _ _ _ hr3]; rfl
    have y2 : w3.cell? ⟨w.heap.size, 2, none⟩ = some (.string x.s) := by rw [cell_of_row _ _ 2 _ _ _ hr3]; rfl
    have y3 : w3.cell? ⟨w.heap.size, 3, none⟩ = some (.slice a9 x.l.length c9) := by rw [cell_of_row _ _ 3 _ _ _ hr3]; rfl
    have hs : sizeL (l.set k x) ≤ 2147483648 := by have := sizeL_set l k x hk; have := HL.out; have := HXS.out; omega
    have hks : kindedL (l.set k x) := kindedL_all fun y hy => by
      rcases List.mem_or_eq_of_mem_set hy with hy | rfl
      · exact kindedL_mem HK.out hy
      · exact HKX.out
    have HS := hid hs; have HV5 := hid hv5.t; have HF5 := hid hF5; have HKS := hid hks
    clear hs hv5 hF5 hf5 ho5 hc5 hc3 ho3 hf3 hr3 hnd hr0 hvo hul hui hks
    go_wp2_with fail
    refine (rmade_any _ HKS.out (by have := HS.out; omega) _ _ HV5.out).mono ?_
    rintro e w6 ⟨v', rfl, hf6, hv6⟩
    have HF6 := hid (HF5.out.trans' hf6); have HV6 := hid hv6
    clear hf6 hv6
    go_wp2_with fail
    go_ret2
    exact ⟨_, by rw [HP.out]; rfl, HF6.out, by rw [HP.out]; exact HV6.out.t⟩
  · have hp : pPut l i x = ([], 10) := by unfold pPut; rw [if_neg ht]
    have hcase : i < 1 ∨ (1 ≤ i ∧ (l.length : Int) < i) := by
      unfold isThere at ht
      simp at ht
      omega
    have HP := hid hp
    clear hp ht
    rcases hcase with h1 | ⟨h1, h2⟩
    all_goals
      go_enter Try.func46, Try.ntmps46
      go_wp2_with fail
      go_ret2
      exact ⟨_, by rw [HP.out]; rfl, HF.out, by rw [HP.out]; exact VL.nil _ _⟩
end Go.Proofs.Ytjngddmjgcecnaa
