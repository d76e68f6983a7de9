/- The statement NumPuts, walked. -/
import Derived.Test.YtjngddmjgcecnaaNumF
import Derived.Test.YtjngddmjgcecnaaNumC
import Derived.Test.YtjngddmjgcecnaaCmpPlain
import Derived.Test.YtjngddmjgcecnaaRefL
import Derived.Test.YtjngddmjgcecnaaValL
import Derived.Test.YtjngddmjgcecnaaNumber
import Derived.Test.YtjngddmjgcecnaaPrinted
namespace Go.Proofs.Ytjngddmjgcecnaa
open Go.RowKit

theorem nPut_list (l : List V) (k : Nat) (x : V) (hk : k < l.length) : nPut (.mk 4 0 ⟨#[]⟩ l) (VI ((k : Int) + 1)) x = pList (pMade (l.set k x)).1 (pMade (l.set k x)).2 := by
  have ht : isThere l ((k : Int) + 1) = true := by unfold isThere; simp; omega
  have hpp : pPut l ((k : Int) + 1) x = pMade (l.set k x) := by unfold pPut; rw [if_pos ht, show ((k : Int) + 1 - 1).toNat = k by omega]
  unfold nPut
  rw [if_neg (by intro e; rcases e with e | e; exact e rfl; exact Bool.noConfusion ((show isRows (V.mk 4 0 ⟨#[]⟩ l) = true from rfl).symm.trans e)), if_pos (show (V.mk 4 0 ⟨#[]⟩ l).k = 4 from rfl), show (V.mk 4 0 ⟨#[]⟩ l).l = l from rfl, show (VI ((k : Int) + 1)).n = (k : Int) + 1 from rfl, hpp]
theorem pIdx_list (L : List V) (m : Nat) (y : V) (hy : L[m]? = some y) : pIdx (.mk 4 0 ⟨#[]⟩ L) (VI ((m : Int) + 1)) = (y, 0) := by
  have hm := (List.getElem?_eq_some_iff.1 hy).1
  have ht : isThere L ((m : Int) + 1) = true := by unfold isThere; simp; omega
  unfold pIdx
  rw [if_neg (by intro e; rcases e with e | e; exact e rfl; exact Bool.noConfusion ((show isRows (V.mk 4 0 ⟨#[]⟩ L) = true from rfl).symm.trans e)), if_pos (show (V.mk 4 0 ⟨#[]⟩ L).k = 4 from rfl)]
  show pGet L ((m : Int) + 1) = _
  unfold pGet
  rw [if_pos ht, show ((m : Int) + 1 - 1).toNat = m by omega, List.getD, hy]
  rfl
theorem nPut_none (x : V) : nPut (VI 1) (VI 1) x = (V0, 1) := by
  unfold nPut
  rw [if_pos (.inr rfl)]
theorem nPut_two (s t : ByteArray) (i : Int) (ht : t.size ≠ 1) : nPut (VS s) (VI i) (VS t) = (V0, 13) := by
  unfold nPut
  rw [if_neg (by intro e; rcases e with e | e; exact e rfl; exact Bool.noConfusion ((show isRows (VS s) = true from rfl).symm.trans e)), if_neg (show ¬ (VS s).k = 4 by show ¬ (2 : Int) = 4; decide), if_pos (.inr ht)]
theorem nPut_beyond (s t : ByteArray) (i : Int) (ht : t.size = 1) (hi : (s.size : Int) < i) : nPut (VS s) (VI i) (VS t) = (V0, 10) := by
  unfold nPut
  rw [if_neg (by intro e; rcases e with e | e; exact e rfl; exact Bool.noConfusion ((show isRows (VS s) = true from rfl).symm.trans e)), if_neg (show ¬ (VS s).k = 4 by show ¬ (2 : Int) = 4; decide), if_neg (by intro e; rcases e with e | e; exact e rfl; exact e ht), if_pos (.inr hi)]

set_option maxRecDepth 100000 in
set_option maxHeartbeats 12800000 in
theorem numPuts_any (l : List V) (x : V) (v : Value) (u : Array Value) (n : Int) (s : ByteArray) (b0 : -9223372036854775808 ≤ n) (c0 : n ≤ 9223372036854775807) (w : World) (h : VL T w l v) (hx : VIn T w x u) (hl : sizeL l ≤ 1048576) (hxs : x.size ≤ 1048576) (hss : s.size ≤ 1048576) :
    Calls Try.prog 5 #[v, .agg u, .int .i64 n, .string s] w fun e w' => e = .returned (.bool true) ∧ Fr (fun _ => False) w w' := by
  have hll := len_le_sizeL l
  obtain ⟨v9, rfl, a9, c9, us9, rfl, -⟩ := hx.open
  have hf := (Fr.refl (fun _ => False) w).alloc (.cells #[.int .i64 x.k, .int .i64 x.n, .string x.s, .slice a9 x.l.length c9] 24)
  have hr := heap_alloc_new w (.cells #[.int .i64 x.k, .int .i64 x.n, .string x.s, .slice a9 x.l.length c9] 24)
  obtain ⟨a, c, us, rfl, hlc, hcm, -⟩ := id h
  have hI : (l.length : Int) ≤ 1048576 := by omega
  have hIs : (s.size : Int) ≤ 1048576 := by omega
  have HF := hid hf; have HR := hid hr; have HV := hid h; have HX := hid hx; have HL := hid hl; have HXS := hid hxs; have B0 := hid b0; have C0 := hid c0; have HSS := hid hss
  clear hf hr h hx hl hxs hll b0 c0 hss
  go_enter Try.func5, Try.ntmps5
  go_wp2_with fail
  refine (nfirst_any _).mono ?_
  rintro e w1 ⟨rfl, hf1⟩
  have HF1 := hid (HF.out.trans' hf1)
  have HR1 := hid (hf1.heap HR.out not_false)
  clear hf1 HF HR
  go_wp2_with fail
  refine (rights_any 30 l (by have := HL.out; omega) T _ _ (HV.out.fr HF1.out)).mono ?_
  rintro e w2 ⟨rfl, hf2⟩
  have HF2 := hid (HF1.out.trans' hf2)
  have HR2 := hid (hf2.heap HR1.out not_false)
  clear hf2 HF1 HR1
  by_cases hsm : (decide (l.length ≤ 30) && l.all V.right) = true
  rotate_left
  · rw [Bool.eq_false_iff.2 hsm]
    go_wp2_with fail
    go_ret
    exact ⟨rfl, HF2.out⟩
  rw [hsm]
  go_wp2_with fail
  refine (rL_any l (by have := HL.out; omega) T _ _ (HV.out.fr HF2.out)).mono ?_
  rintro e w3 ⟨u3, rfl, hf3, hv3⟩
  have HF3 := hid (HF2.out.trans' hf3)
  have HR3 := hid (hf3.heap HR2.out not_false)
  have hv3 := hv3.t
  clear hf3 HF2 HR2
  go_wp2_with fail
  refine (rright_any (.mk 4 0 ⟨#[]⟩ l) (by rw [V.size, show (ByteArray.size ⟨#[]⟩) = 0 from rfl]; have := HL.out; omega) T _ _ hv3).mono ?_
  rintro e w4 ⟨rfl, hf4⟩
  have HF4 := hid (HF3.out.trans' hf4)
  have HR4 := hid (hf4.heap HR3.out not_false)
  clear hf4 HF3 HR3 hv3
  by_cases hrl : (V.mk 4 0 ⟨#[]⟩ l).right = true
  rotate_left
  · rw [Bool.eq_false_iff.2 hrl]
    go_wp2_with fail
    go_ret
    exact ⟨rfl, HF4.out⟩
  rw [hrl]
  have z0 : w4.cell? ⟨w.heap.size, 0, none⟩ = some (.int .i64 x.k) := by rw [cell_of_row _ _ 0 _ _ _ HR4.out]; rfl
  have z1 : w4.cell? ⟨w.heap.size, 1, none⟩ = some (.int .i64 x.n) := by rw [cell_of_row _ _ 1 _ _ _ HR4.out]; rfl
  have z2 : w4.cell? ⟨w.heap.size, 2, none⟩ = some (.string x.s) := by rw [cell_of_row _ _ 2 _ _ _ HR4.out]; rfl
  have z3 : w4.cell? ⟨w.heap.size, 3, none⟩ = some (.slice a9 x.l.length c9) := by rw [cell_of_row _ _ 3 _ _ _ HR4.out]; rfl
  go_wp2_with fail
  refine (rright_any x (by have := HXS.out; omega) T _ _ (HX.out.fr HF4.out)).mono ?_
  rintro e w5 ⟨rfl, hf5⟩
  have HF5 := hid (HF4.out.trans' hf5)
  have HR5 := hid (hf5.heap HR4.out not_false)
  clear hf5 HF4 HR4 z0 z1 z2 z3
  by_cases hrx : x.right = true
  rotate_left
  · rw [Bool.eq_false_iff.2 hrx]
    go_wp2_with fail
    go_ret
    exact ⟨rfl, HF5.out⟩
  rw [hrx]
  by_cases hl0 : (l.length : Int) = 0
  · have q1 : ((l.length : Int) == 0) = true := by simpa using hl0
    clear hl0
    go_wp2_with fail
    go_ret
    exact ⟨rfl, HF5.out⟩
  have q1 : ((l.length : Int) == 0) = false := by simpa using hl0
  by_cases hs1 : (100 : Int) < s.size
  · go_wp2_with fail
    go_ret
    exact ⟨rfl, HF5.out⟩
  go_wp2_with fail
  refine (printed_any s (by have := HSS.out; omega) _).mono ?_
  rintro e w6 ⟨rfl, rfl⟩
  by_cases hpr : printed s = true
  rotate_left
  · rw [Bool.eq_false_iff.2 hpr]
    go_wp2_with fail
    go_ret
    exact ⟨rfl, HF5.out⟩
  rw [hpr]
  have hl1 : (0 : Int) < l.length := by omega
  obtain ⟨k, hk⟩ : ∃ k : Nat, n % (l.length : Int) = k := ⟨(n % (l.length : Int)).toNat, by have := Int.emod_nonneg n (show (l.length : Int) ≠ 0 by omega); omega⟩
  have hkl : k < l.length := by have := Int.emod_lt_of_pos n hl1; omega
  have HK := hid hk; have HKL := hid hkl; have HRX := hid hrx; have HSM := hid hsm
  clear hk hkl hrx hrl hsm hpr
  go_wp2_with fail
  refine (number_any n l.length _ hl1 (by omega) B0.out C0.out).mono ?_
  rintro e w7 ⟨rfl, rfl⟩
  rw [HK.out]
  have hkI : (k : Int) ≤ 1048576 := by have := HKL.out; omega
  have hx5 := HX.out.fr HF5.out
  have hv5 := HV.out.fr HF5.out
  obtain ⟨P, pc, hP⟩ : ∃ P pc, nPut (.mk 4 0 ⟨#[]⟩ l) (VI ((k : Int) + 1)) x = (P, pc) := ⟨_, _, rfl⟩
  have hput : ∀ w1, Fr (fun _ => False) w5 w1 → ∀ uL, VIn T w1 (.mk 4 0 ⟨#[]⟩ l) uL → Calls Try.prog 18 #[.agg uL, .agg #[.int .i64 0, .int .i64 ((k : Int) + 1), .string ⟨#[]⟩, .slice none 0 0], .agg #[.int .i64 x.k, .int .i64 x.n, .string x.s, .slice a9 x.l.length c9]] w1 (GD (fun b => w1.heap.size ≤ b) w1 P pc) := fun w1 hf uL hL => by
    have := nput_any (.mk 4 0 ⟨#[]⟩ l) (VI ((k : Int) + 1)) x uL _ _ w1 hL (VI.inn _ _ _) (hx5.fr hf) (by rw [V.size, show (ByteArray.size ⟨#[]⟩) = 0 from rfl]; have := HL.out; omega) (by have := HXS.out; omega)
    rw [hP] at this
    exact this
  have HP := hid hP; have HPUT := hid hput; have HX5 := hid hx5; have HV5 := hid hv5
  have HZ0 := hid (show w5.cell? ⟨w.heap.size, 0, none⟩ = some (.int .i64 x.k) by rw [cell_of_row _ _ 0 _ _ _ HR5.out]; rfl)
  have HZ1 := hid (show w5.cell? ⟨w.heap.size, 1, none⟩ = some (.int .i64 x.n) by rw [cell_of_row _ _ 1 _ _ _ HR5.out]; rfl)
  have HZ2 := hid (show w5.cell? ⟨w.heap.size, 2, none⟩ = some (.string x.s) by rw [cell_of_row _ _ 2 _ _ _ HR5.out]; rfl)
  have HZ3 := hid (show w5.cell? ⟨w.heap.size, 3, none⟩ = some (.slice a9 x.l.length c9) by rw [cell_of_row _ _ 3 _ _ _ HR5.out]; rfl)
  have hwr : IntKind.i64.wrap ((k : Int) + 1) = (k : Int) + 1 := IntWalk.i64_in _ (by omega)
  clear hP hput hx5 hv5
  go_upto_region 7 with fail
  go_cut [11, 12] from 64 to 73 (fun p c wx => ∃ g aP cP, p = .pointer (some ⟨g, 0, none⟩) ∧ c = .int .i64 pc ∧ Hid (Fr (fun _ => False) w5 wx) ∧ Hid (wx.heap[g]? = some (.cells #[.int .i64 P.k, .int .i64 P.n, .string P.s, .slice aP P.l.length cP] 24)) ∧ Hid (VIn T wx P #[.int .i64 P.k, .int .i64 P.n, .string P.s, .slice aP P.l.length cP]))
  case first =>
    rename_i J K1 hJ hK1
    refine wpF_begin [0, 2, 3, 5, 7, 8, 9] (fun w' => Fr (fun _ => False) w5 w') (by kernel_rfl) ?_
    have hSd : Fr (fun _ => False) w5 w5.drew := (Fr.refl _ _).drew
    (refine wpF_take (i := 0) ?_ (by kernel_rfl) (fun _ _ d _ _ h => by cases d <;> exact h) (by kernel_rfl) rfl (by kernel_rfl) (hSd) ?_ ?_; rotate_left; (· intro w' hS; go_simp; try with_reducible rfl); (try simp only [Act.put, List.setIfInBounds_toArray, List.set_cons_zero, List.set_cons_succ]))
    (refine wpF_take (i := 2) ?_ (by kernel_rfl) (fun _ _ d _ _ h => by cases d <;> exact h) (by kernel_rfl) rfl (by kernel_rfl) (hSd) ?_ ?_; rotate_left; (· intro w' hS; go_simp; try with_reducible rfl); (try simp only [Act.put, List.setIfInBounds_toArray, List.set_cons_zero, List.set_cons_succ]))
    (refine wpF_take (i := 3) ?_ (by kernel_rfl) (fun _ _ d _ _ h => by cases d <;> exact h) (by kernel_rfl) rfl (by kernel_rfl) (hSd) ?_ ?_; rotate_left; (· intro w' hS; go_simp; try with_reducible rfl); (try simp only [Act.put, List.setIfInBounds_toArray, List.set_cons_zero, List.set_cons_succ]))
    (refine wpF_take (i := 5) ?_ (by kernel_rfl) (fun _ _ d _ _ h => by cases d <;> exact h) (by kernel_rfl) rfl (by kernel_rfl) (hSd) ?_ ?_; rotate_left; (· intro w' hS; have z0 := Fr.cell hS HZ0.out not_false; have z1 := Fr.cell hS HZ1.out not_false; have z2 := Fr.cell hS HZ2.out not_false; have z3 := Fr.cell hS HZ3.out not_false; go_simp; try with_reducible rfl); (try simp only [Act.put, List.setIfInBounds_toArray, List.set_cons_zero, List.set_cons_succ]))
    refine wpF_run2 (i := 1) (j := 10) (by kernel_rfl) rfl rfl (by kernel_rfl) (by kernel_rfl) (fun K hK => ?_) (fun K hK => ?_)
    · go_simp
      refine (vL_any l (by have := HL.out; omega) T _ _ (HV5.out.fr hSd)).mono ?_
      rintro e w60 ⟨uL, rfl, hf60, hvL, -⟩
      have hvL := hvL.t
      have hS60 := hSd.trans' hf60
      refine hK _ _ hS60 ?_
      clear hK K
      try simp only [Act.put, List.setIfInBounds_toArray, List.set_cons_zero, List.set_cons_succ]
      refine wpF_run2 (i := 4) (j := 10) (by kernel_rfl) rfl rfl (by kernel_rfl) (by kernel_rfl) (fun K hK => ?_) (fun K hK => ?_)
      · go_simp
        refine (vI_any ((k : Int) + 1) _).mono ?_
        rintro e w61 ⟨rfl, hf61⟩
        have hS61 := hS60.trans' hf61
        have hvL := hvL.fr hf61
        refine hK _ _ hS61 ?_
        clear hK K
        try simp only [Act.put, List.setIfInBounds_toArray, List.set_cons_zero, List.set_cons_succ]
        refine wpF_run2 (i := 6) (j := 10) (by kernel_rfl) rfl rfl (by kernel_rfl) (by kernel_rfl) (fun K hK => ?_) (fun K hK => ?_)
        · go_simp
          refine (HPUT.out _ hS61 _ hvL).mono ?_
          rintro e w62 ⟨uP, rfl, hf62, hvP⟩
          obtain ⟨vP, rfl, aP, cP, usP, rfl, -⟩ := hvP.open
          have hS62 := hS61.trans' hf62
          have hvL := hvL.fr hf62
          refine hK _ _ hS62 ?_
          clear hK K
          try simp only [Act.put, List.setIfInBounds_toArray, List.set_cons_zero, List.set_cons_succ]
          (refine wpF_take (i := 7) ?_ (by kernel_rfl) (fun _ _ d _ _ h => by cases d <;> exact h) (by kernel_rfl) rfl (by kernel_rfl) (hS62) ?_ ?_; rotate_left; (· intro w' hS; go_simp; try with_reducible rfl); (try simp only [Act.put, List.setIfInBounds_toArray, List.set_cons_zero, List.set_cons_succ]))
          (refine wpF_take (i := 8) ?_ (by kernel_rfl) (fun _ _ d _ _ h => by cases d <;> exact h) (by kernel_rfl) rfl (by kernel_rfl) (hS62) ?_ ?_; rotate_left; (· intro w' hS; go_simp; try with_reducible rfl); (try simp only [Act.put, List.setIfInBounds_toArray, List.set_cons_zero, List.set_cons_succ]))
          (refine wpF_take (i := 9) ?_ (by kernel_rfl) (fun _ _ d _ _ h => by cases d <;> exact h) (by kernel_rfl) rfl (by kernel_rfl) (hS62) ?_ ?_; rotate_left; (· intro w' hS; go_simp; try with_reducible rfl); (try simp only [Act.put, List.setIfInBounds_toArray, List.set_cons_zero, List.set_cons_succ]))
          (refine wpF_run (i := 10) (by kernel_rfl) rfl (by kernel_rfl) (fun K hK => ?_); go_simp; refine hK _ _ (hS62.alloc _) ?_; clear hK K; (try simp only [Act.put, List.setIfInBounds_toArray, List.set_cons_zero, List.set_cons_succ]))
          have hS9 := hS62.alloc (.cells #[.int .i64 P.k, .int .i64 P.n, .string P.s, .slice aP P.l.length cP] 24)
          have hR9 := heap_alloc_new w62 (.cells #[.int .i64 P.k, .int .i64 P.n, .string P.s, .slice aP P.l.length cP] 24)
          have hG9 := hS62.size
          (refine wpF_run (i := 11) (by kernel_rfl) rfl (by kernel_rfl) (fun K hK => ?_); go_simp; refine hK _ _ (hS9) ?_; clear hK K; (try simp only [Act.put, List.setIfInBounds_toArray, List.set_cons_zero, List.set_cons_succ]))
          (refine wpF_run (i := 12) (by kernel_rfl) rfl (by kernel_rfl) (fun K hK => ?_); go_simp; refine hK _ _ (hS9) ?_; clear hK K; (try simp only [Act.put, List.setIfInBounds_toArray, List.set_cons_zero, List.set_cons_succ]))
          refine wpF_end (by kernel_rfl) ?_
          refine hK1 _ _ (Met.intro (hJ _ _ ?_))
          repeat apply Exists.intro
          refine ⟨?_, rfl⟩
          exact ⟨_, _, _, rfl, rfl, hid hS9, hid hR9, hid (hvP.t.fr ((Fr.refl _ _).alloc _))⟩
        · go_simp
          have hSa := hS61.alloc (.cells #[.int .i64 0, .int .i64 0, .string ⟨#[]⟩, .slice none 0 0] 24)
          have hg : (w61.alloc (.cells #[.int .i64 0, .int .i64 0, .string ⟨#[]⟩, .slice none 0 0] 24)).heap[w61.heap.size]? = some (.cells #[.int .i64 0, .int .i64 0, .string ⟨#[]⟩, .slice none 0 0] 24) := heap_alloc_new w61 (.cells #[.int .i64 0, .int .i64 0, .string ⟨#[]⟩, .slice none 0 0] 24)
          have hG9 : w5.heap.size ≤ _ := hS61.size
          have hvL := hvL.fr ((Fr.refl _ _).alloc (.cells #[.int .i64 0, .int .i64 0, .string ⟨#[]⟩, .slice none 0 0] 24))
          refine hK _ _ hSa ?_
          clear hK K
          try simp only [Act.put, List.setIfInBounds_toArray, List.set_cons_zero, List.set_cons_succ]
          refine wpF_run (i := 6) (by kernel_rfl) rfl (by kernel_rfl) (fun K hK => ?_); go_simp
          refine (HPUT.out _ hSa _ hvL).mono ?_
          rintro e w62 ⟨uP, rfl, hf62, hvP⟩
          obtain ⟨vP, rfl, aP, cP, usP, rfl, -⟩ := hvP.open
          have hS62 := hSa.trans' hf62
          have hgl62 := heap_lt hg
          have hg := hf62.heap hg not_false
          have hvL := hvL.fr hf62
          refine hK _ _ hS62 ?_
          clear hK K
          try simp only [Act.put, List.setIfInBounds_toArray, List.set_cons_zero, List.set_cons_succ]
          (refine wpF_take (i := 7) ?_ (by kernel_rfl) (fun _ _ d _ _ h => by cases d <;> exact h) (by kernel_rfl) rfl (by kernel_rfl) (hS62) ?_ ?_; rotate_left; (· intro w' hS; go_simp; try with_reducible rfl); (try simp only [Act.put, List.setIfInBounds_toArray, List.set_cons_zero, List.set_cons_succ]))
          (refine wpF_take (i := 8) ?_ (by kernel_rfl) (fun _ _ d _ _ h => by cases d <;> exact h) (by kernel_rfl) rfl (by kernel_rfl) (hS62) ?_ ?_; rotate_left; (· intro w' hS; go_simp; try with_reducible rfl); (try simp only [Act.put, List.setIfInBounds_toArray, List.set_cons_zero, List.set_cons_succ]))
          (refine wpF_take (i := 9) ?_ (by kernel_rfl) (fun _ _ d _ _ h => by cases d <;> exact h) (by kernel_rfl) rfl (by kernel_rfl) (hS62) ?_ ?_; rotate_left; (· intro w' hS; go_simp; try with_reducible rfl); (try simp only [Act.put, List.setIfInBounds_toArray, List.set_cons_zero, List.set_cons_succ]))
          obtain ⟨hR9, hf9, y0, y1, y2, y3, yf⟩ := set4 hg (.int .i64 P.k) (.int .i64 P.n) (.string P.s) (.slice aP P.l.length cP)
          have hS9 := hS62.trans hf9 (U := fun _ => False) (fun _ _ h => h) (fun q hq e => by have := hG9; omega)
          (refine wpF_run (i := 11) (by kernel_rfl) rfl (by kernel_rfl) (fun K hK => ?_); go_simp; refine hK _ _ (hS9) ?_; clear hK K; (try simp only [Act.put, List.setIfInBounds_toArray, List.set_cons_zero, List.set_cons_succ]))
          (refine wpF_run (i := 12) (by kernel_rfl) rfl (by kernel_rfl) (fun K hK => ?_); go_simp; refine hK _ _ (hS9) ?_; clear hK K; (try simp only [Act.put, List.setIfInBounds_toArray, List.set_cons_zero, List.set_cons_succ]))
          refine wpF_end (by kernel_rfl) ?_
          refine hK1 _ _ (Met.intro (hJ _ _ ?_))
          repeat apply Exists.intro
          refine ⟨?_, rfl⟩
          exact ⟨_, _, _, rfl, rfl, hid hS9, hid hR9, hid ((hvP.frame hf9 fun q hq e => by have := hgl62; omega).t)⟩
      · go_simp
        have hSa := hS60.alloc (.cells #[.int .i64 0, .int .i64 0, .string ⟨#[]⟩, .slice none 0 0] 24)
        have hg : (w60.alloc (.cells #[.int .i64 0, .int .i64 0, .string ⟨#[]⟩, .slice none 0 0] 24)).heap[w60.heap.size]? = some (.cells #[.int .i64 0, .int .i64 0, .string ⟨#[]⟩, .slice none 0 0] 24) := heap_alloc_new w60 (.cells #[.int .i64 0, .int .i64 0, .string ⟨#[]⟩, .slice none 0 0] 24)
        have hG9 : w5.heap.size ≤ _ := hS60.size
        have hvL := hvL.fr ((Fr.refl _ _).alloc (.cells #[.int .i64 0, .int .i64 0, .string ⟨#[]⟩, .slice none 0 0] 24))
        refine hK _ _ hSa ?_
        clear hK K
        try simp only [Act.put, List.setIfInBounds_toArray, List.set_cons_zero, List.set_cons_succ]
        refine wpF_run (i := 4) (by kernel_rfl) rfl (by kernel_rfl) (fun K hK => ?_); go_simp
        refine (vI_any ((k : Int) + 1) _).mono ?_
        rintro e w61 ⟨rfl, hf61⟩
        have hS61 := hSa.trans' hf61
        have hgl61 := heap_lt hg
        have hg := hf61.heap hg not_false
        have hvL := hvL.fr hf61
        refine hK _ _ hS61 ?_
        clear hK K
        try simp only [Act.put, List.setIfInBounds_toArray, List.set_cons_zero, List.set_cons_succ]
        refine wpF_run (i := 6) (by kernel_rfl) rfl (by kernel_rfl) (fun K hK => ?_); go_simp
        refine (HPUT.out _ hS61 _ hvL).mono ?_
        rintro e w62 ⟨uP, rfl, hf62, hvP⟩
        obtain ⟨vP, rfl, aP, cP, usP, rfl, -⟩ := hvP.open
        have hS62 := hS61.trans' hf62
        have hgl62 := heap_lt hg
        have hg := hf62.heap hg not_false
        have hvL := hvL.fr hf62
        refine hK _ _ hS62 ?_
        clear hK K
        try simp only [Act.put, List.setIfInBounds_toArray, List.set_cons_zero, List.set_cons_succ]
        (refine wpF_take (i := 7) ?_ (by kernel_rfl) (fun _ _ d _ _ h => by cases d <;> exact h) (by kernel_rfl) rfl (by kernel_rfl) (hS62) ?_ ?_; rotate_left; (· intro w' hS; go_simp; try with_reducible rfl); (try simp only [Act.put, List.setIfInBounds_toArray, List.set_cons_zero, List.set_cons_succ]))
        (refine wpF_take (i := 8) ?_ (by kernel_rfl) (fun _ _ d _ _ h => by cases d <;> exact h) (by kernel_rfl) rfl (by kernel_rfl) (hS62) ?_ ?_; rotate_left; (· intro w' hS; go_simp; try with_reducible rfl); (try simp only [Act.put, List.setIfInBounds_toArray, List.set_cons_zero, List.set_cons_succ]))
        (refine wpF_take (i := 9) ?_ (by kernel_rfl) (fun _ _ d _ _ h => by cases d <;> exact h) (by kernel_rfl) rfl (by kernel_rfl) (hS62) ?_ ?_; rotate_left; (· intro w' hS; go_simp; try with_reducible rfl); (try simp only [Act.put, List.setIfInBounds_toArray, List.set_cons_zero, List.set_cons_succ]))
        obtain ⟨hR9, hf9, y0, y1, y2, y3, yf⟩ := set4 hg (.int .i64 P.k) (.int .i64 P.n) (.string P.s) (.slice aP P.l.length cP)
        have hS9 := hS62.trans hf9 (U := fun _ => False) (fun _ _ h => h) (fun q hq e => by have := hG9; omega)
        (refine wpF_run (i := 11) (by kernel_rfl) rfl (by kernel_rfl) (fun K hK => ?_); go_simp; refine hK _ _ (hS9) ?_; clear hK K; (try simp only [Act.put, List.setIfInBounds_toArray, List.set_cons_zero, List.set_cons_succ]))
        (refine wpF_run (i := 12) (by kernel_rfl) rfl (by kernel_rfl) (fun K hK => ?_); go_simp; refine hK _ _ (hS9) ?_; clear hK K; (try simp only [Act.put, List.setIfInBounds_toArray, List.set_cons_zero, List.set_cons_succ]))
        refine wpF_end (by kernel_rfl) ?_
        refine hK1 _ _ (Met.intro (hJ _ _ ?_))
        repeat apply Exists.intro
        refine ⟨?_, rfl⟩
        exact ⟨_, _, _, rfl, rfl, hid hS9, hid hR9, hid ((hvP.frame hf9 fun q hq e => by have := hgl62; omega).t)⟩
    · go_simp
      have hSa := hSd.alloc (.cells #[.int .i64 0, .int .i64 0, .string ⟨#[]⟩, .slice none 0 0] 24)
      have hg : (w5.drew.alloc (.cells #[.int .i64 0, .int .i64 0, .string ⟨#[]⟩, .slice none 0 0] 24)).heap[w5.heap.size]? = some (.cells #[.int .i64 0, .int .i64 0, .string ⟨#[]⟩, .slice none 0 0] 24) := heap_alloc_new w5.drew (.cells #[.int .i64 0, .int .i64 0, .string ⟨#[]⟩, .slice none 0 0] 24)
      have hG9 : w5.heap.size ≤ _ := hSd.size
      refine hK _ _ hSa ?_
      clear hK K
      try simp only [Act.put, List.setIfInBounds_toArray, List.set_cons_zero, List.set_cons_succ]
      refine wpF_run (i := 1) (by kernel_rfl) rfl (by kernel_rfl) (fun K hK => ?_); go_simp
      refine (vL_any l (by have := HL.out; omega) T _ _ (HV5.out.fr hSa)).mono ?_
      rintro e w60 ⟨uL, rfl, hf60, hvL, -⟩
      have hvL := hvL.t
      have hS60 := hSa.trans' hf60
      have hgl60 := heap_lt hg
      have hg := hf60.heap hg not_false
      refine hK _ _ hS60 ?_
      clear hK K
      try simp only [Act.put, List.setIfInBounds_toArray, List.set_cons_zero, List.set_cons_succ]
      refine wpF_run (i := 4) (by kernel_rfl) rfl (by kernel_rfl) (fun K hK => ?_); go_simp
      refine (vI_any ((k : Int) + 1) _).mono ?_
      rintro e w61 ⟨rfl, hf61⟩
      have hS61 := hS60.trans' hf61
      have hgl61 := heap_lt hg
      have hg := hf61.heap hg not_false
      have hvL := hvL.fr hf61
      refine hK _ _ hS61 ?_
      clear hK K
      try simp only [Act.put, List.setIfInBounds_toArray, List.set_cons_zero, List.set_cons_succ]
      refine wpF_run (i := 6) (by kernel_rfl) rfl (by kernel_rfl) (fun K hK => ?_); go_simp
      refine (HPUT.out _ hS61 _ hvL).mono ?_
      rintro e w62 ⟨uP, rfl, hf62, hvP⟩
      obtain ⟨vP, rfl, aP, cP, usP, rfl, -⟩ := hvP.open
      have hS62 := hS61.trans' hf62
      have hgl62 := heap_lt hg
      have hg := hf62.heap hg not_false
      have hvL := hvL.fr hf62
      refine hK _ _ hS62 ?_
      clear hK K
      try simp only [Act.put, List.setIfInBounds_toArray, List.set_cons_zero, List.set_cons_succ]
      (refine wpF_take (i := 7) ?_ (by kernel_rfl) (fun _ _ d _ _ h => by cases d <;> exact h) (by kernel_rfl) rfl (by kernel_rfl) (hS62) ?_ ?_; rotate_left; (· intro w' hS; go_simp; try with_reducible rfl); (try simp only [Act.put, List.setIfInBounds_toArray, List.set_cons_zero, List.set_cons_succ]))
      (refine wpF_take (i := 8) ?_ (by kernel_rfl) (fun _ _ d _ _ h => by cases d <;> exact h) (by kernel_rfl) rfl (by kernel_rfl) (hS62) ?_ ?_; rotate_left; (· intro w' hS; go_simp; try with_reducible rfl); (try simp only [Act.put, List.setIfInBounds_toArray, List.set_cons_zero, List.set_cons_succ]))
      (refine wpF_take (i := 9) ?_ (by kernel_rfl) (fun _ _ d _ _ h => by cases d <;> exact h) (by kernel_rfl) rfl (by kernel_rfl) (hS62) ?_ ?_; rotate_left; (· intro w' hS; go_simp; try with_reducible rfl); (try simp only [Act.put, List.setIfInBounds_toArray, List.set_cons_zero, List.set_cons_succ]))
      obtain ⟨hR9, hf9, y0, y1, y2, y3, yf⟩ := set4 hg (.int .i64 P.k) (.int .i64 P.n) (.string P.s) (.slice aP P.l.length cP)
      have hS9 := hS62.trans hf9 (U := fun _ => False) (fun _ _ h => h) (fun q hq e => by have := hG9; omega)
      (refine wpF_run (i := 11) (by kernel_rfl) rfl (by kernel_rfl) (fun K hK => ?_); go_simp; refine hK _ _ (hS9) ?_; clear hK K; (try simp only [Act.put, List.setIfInBounds_toArray, List.set_cons_zero, List.set_cons_succ]))
      (refine wpF_run (i := 12) (by kernel_rfl) rfl (by kernel_rfl) (fun K hK => ?_); go_simp; refine hK _ _ (hS9) ?_; clear hK K; (try simp only [Act.put, List.setIfInBounds_toArray, List.set_cons_zero, List.set_cons_succ]))
      refine wpF_end (by kernel_rfl) ?_
      refine hK1 _ _ (Met.intro (hJ _ _ ?_))
      repeat apply Exists.intro
      refine ⟨?_, rfl⟩
      exact ⟨_, _, _, rfl, rfl, hid hS9, hid hR9, hid ((hvP.frame hf9 fun q hq e => by have := hgl62; omega).t)⟩
  case rest =>
  obtain ⟨g, aP, cP, rfl, rfl, HS, HG, HVP⟩ := hcut
  have hset := nPut_list l k x HKL.out
  have hcase : (P = .mk 4 0 ⟨#[]⟩ (l.set k x) ∧ pc = 0) ∨ (pc ≠ 0 ∧ (pc = 14 ∨ pc = 9)) := by
    have h1 := hset.symm.trans HP.out
    unfold pMade pList mlist mcode at h1
    by_cases h40 : 40 < 1 + deepL (l.set k x)
    · rw [if_pos h40] at h1
      have h2 := congrArg Prod.snd h1
      simp at h2
      exact .inr ⟨by omega, .inr h2.symm⟩
    · by_cases h41 : 4096 < 1 + sizeL (l.set k x)
      · rw [if_neg h40, if_pos h41] at h1
        have h2 := congrArg Prod.snd h1
        simp at h2
        exact .inr ⟨by omega, .inl h2.symm⟩
      · rw [if_neg h40, if_neg h41] at h1
        simp at h1
        exact .inl ⟨h1.1.symm, h1.2.symm⟩
  have HC := hid hcase
  clear hset hcase HPUT hwr hkI
  go_upto_if 75 with fail
  go_cut [] from 76 to 111 (fun wx => Hid (Fr (fun _ => False) wc wx))
  case first =>
    rcases HC.out with ⟨hP1, hpc⟩ | ⟨hpc, hpc2⟩
    rotate_left
    · have q2 : (pc == 0) = false := by simpa using hpc
      have q3 : (pc != 14 && pc != 9) = false := by rcases hpc2 with e | e <;> rw [e] <;> rfl
      rcases hpc2 with rfl | rfl
      all_goals
        go_wp2_with fail
        go_meet
        exact hid (Fr.refl _ _)
    subst hpc hP1
    have HG' := hid (show wc.heap[g]? = some (.cells #[.int .i64 4, .int .i64 0, .string ⟨#[]⟩, .slice aP (l.set k x).length cP] 24) from HG.out)
    have HVP' := hid (show VIn T wc (.mk 4 0 ⟨#[]⟩ (l.set k x)) #[.int .i64 4, .int .i64 0, .string ⟨#[]⟩, .slice aP (l.set k x).length cP] from HVP.out)
    have hlen : (l.set k x).length = l.length := List.length_set
    rw [hlen] at HG' HVP'
    have hys : ∀ (m : Nat) (y : V), (l.set k x)[m]? = some y → y.size ≤ 2097152 := fun m y hy => by
      have h1 := sizeL_mem hy
      have h2 := sizeL_set l k x HKL.out
      have := HL.out; have := HXS.out
      omega
    have hset1 : ∀ (m : Nat), m < l.length → ∃ y, pIdx (.mk 4 0 ⟨#[]⟩ (l.set k x)) (VI ((m : Int) + 1)) = (y, 0) ∧ (l.set k x)[m]? = some y ∧ y.size ≤ 2097152 ∧ (m = k → y = x) ∧ (m ≠ k → l[m]? = some y) := fun m hm => by
      obtain ⟨y, hy⟩ : ∃ y, (l.set k x)[m]? = some y := ⟨_, List.getElem?_eq_getElem (by rw [hlen]; exact hm)⟩
      refine ⟨y, ?_, hy, hys m y hy, fun e => ?_, fun e => ?_⟩
      · exact pIdx_list _ m y hy
      · subst e
        rw [List.getElem?_set_self HKL.out] at hy
        exact (Option.some.inj hy).symm
      · rw [List.getElem?_set_ne (fun e' => e e'.symm)] at hy
        exact hy
    have HSET := hid hset1; have HSZ := hid (show sizeL (l.set k x) ≤ 2097152 by have h2 := sizeL_set l k x HKL.out; have := HL.out; have := HXS.out; omega)
    clear hys hset1 hlen HG HVP HC HP
    go_wp2_with fail
    go_loopw [13] (fun i wr => ∃ m : Nat, m ≤ l.length ∧ i = .int .i64 m ∧ Hid (Fr (fun _ => False) wc wr)) (fun i _ => l.length - (intOf i).toNat)
    case atStart => exact ⟨0, Nat.zero_le _, rfl, hid (Fr.refl _ _)⟩
    case round =>
      obtain ⟨m, hml, rfl, HF⟩ := hrel
      by_cases hlt : m < l.length
      · have hlt' : (m : Int) < l.length := by omega
        obtain ⟨y, hpi, hy, hys, hyk, hyn⟩ := HSET.out m hlt
        have hix : ∀ w1, Fr (fun _ => False) wr w1 → Calls Try.prog 20 #[.agg #[.int .i64 4, .int .i64 0, .string ⟨#[]⟩, .slice aP l.length cP], .agg #[.int .i64 0, .int .i64 ((m : Int) + 1), .string ⟨#[]⟩, .slice none 0 0]] w1 (GD (fun b => w1.heap.size ≤ b) w1 y 0) := fun w1 hf => by
          have := index_any (.mk 4 0 ⟨#[]⟩ (l.set k x)) (VI ((m : Int) + 1)) _ _ w1 ((HVP'.out.fr HF.out).fr hf) (VI.inn _ _ _) (by rw [V.size, show (ByteArray.size ⟨#[]⟩) = 0 from rfl]; have := HSZ.out; omega)
          rw [hpi] at this
          exact this
        have HIX := hid hix; have HYK := hid hyk; have HYN := hid hyn; have HYS := hid hys
        have HGW := hid (HF.out.heap HG'.out not_false)
        have hwr : IntKind.i64.wrap ((m : Int) + 1) = (m : Int) + 1 := IntWalk.i64_in _ (by omega)
        clear hpi hy hys hyk hyn hix
        go_upto_region 12 with fail
        go_cut [14, 15] from 82 to 89 (fun p c wx => ∃ g2 aY cY, p = .pointer (some ⟨g2, 0, none⟩) ∧ c = .int .i64 0 ∧ Hid (Fr (fun _ => False) wr wx) ∧ Hid (wx.heap[g2]? = some (.cells #[.int .i64 y.k, .int .i64 y.n, .string y.s, .slice aY y.l.length cY] 24)) ∧ Hid (VIn T wx y #[.int .i64 y.k, .int .i64 y.n, .string y.s, .slice aY y.l.length cY]))
        case first =>
          rename_i J K1 hJ hK1
          refine wpF_begin [0, 1, 2, 5, 6, 7] (fun w' => Fr (fun _ => False) wr w') (by kernel_rfl) ?_
          have hSd : Fr (fun _ => False) wr wr.drew := (Fr.refl _ _).drew
          (refine wpF_take (i := 0) ?_ (by kernel_rfl) (fun _ _ d _ _ h => by cases d <;> exact h) (by kernel_rfl) rfl (by kernel_rfl) (hSd) ?_ ?_; rotate_left; (· intro w' hS; have hh := Fr.heap hS HGW.out not_false; have z0 : World.cell? w' ⟨g, 0, none⟩ = some (.int .i64 4) := (cell_of_row _ _ 0 _ _ _ hh).trans rfl; have z1 : World.cell? w' ⟨g, 1, none⟩ = some (.int .i64 0) := (cell_of_row _ _ 1 _ _ _ hh).trans rfl; have z2 : World.cell? w' ⟨g, 2, none⟩ = some (.string ⟨#[]⟩) := (cell_of_row _ _ 2 _ _ _ hh).trans rfl; have z3 : World.cell? w' ⟨g, 3, none⟩ = some (.slice aP l.length cP) := (cell_of_row _ _ 3 _ _ _ hh).trans rfl; go_simp; try with_reducible rfl); (try simp only [Act.put, List.setIfInBounds_toArray, List.set_cons_zero, List.set_cons_succ]))
          (refine wpF_take (i := 1) ?_ (by kernel_rfl) (fun _ _ d _ _ h => by cases d <;> exact h) (by kernel_rfl) rfl (by kernel_rfl) (hSd) ?_ ?_; rotate_left; (· intro w' hS; go_simp; try with_reducible rfl); (try simp only [Act.put, List.setIfInBounds_toArray, List.set_cons_zero, List.set_cons_succ]))
          (refine wpF_take (i := 2) ?_ (by kernel_rfl) (fun _ _ d _ _ h => by cases d <;> exact h) (by kernel_rfl) rfl (by kernel_rfl) (hSd) ?_ ?_; rotate_left; (· intro w' hS; go_simp; try with_reducible rfl); (try simp only [Act.put, List.setIfInBounds_toArray, List.set_cons_zero, List.set_cons_succ]))
          refine wpF_run2 (i := 3) (j := 8) (by kernel_rfl) rfl rfl (by kernel_rfl) (by kernel_rfl) (fun K hK => ?_) (fun K hK => ?_)
          · go_simp
            refine (vI_any ((m : Int) + 1) _).mono ?_
            rintro e w60 ⟨rfl, hf60⟩
            have hS60 := hSd.trans' hf60
            refine hK _ _ hS60 ?_
            clear hK K
            try simp only [Act.put, List.setIfInBounds_toArray, List.set_cons_zero, List.set_cons_succ]
            refine wpF_run2 (i := 4) (j := 8) (by kernel_rfl) rfl rfl (by kernel_rfl) (by kernel_rfl) (fun K hK => ?_) (fun K hK => ?_)
            · go_simp
              refine (HIX.out _ hS60).mono ?_
              rintro e w61 ⟨uY, rfl, hf61, hvY⟩
              obtain ⟨vY, rfl, aY, cY, usY, rfl, -⟩ := hvY.open
              have hS61 := hS60.trans' hf61
              refine hK _ _ hS61 ?_
              clear hK K
              try simp only [Act.put, List.setIfInBounds_toArray, List.set_cons_zero, List.set_cons_succ]
              (refine wpF_take (i := 5) ?_ (by kernel_rfl) (fun _ _ d _ _ h => by cases d <;> exact h) (by kernel_rfl) rfl (by kernel_rfl) (hS61) ?_ ?_; rotate_left; (· intro w' hS; go_simp; try with_reducible rfl); (try simp only [Act.put, List.setIfInBounds_toArray, List.set_cons_zero, List.set_cons_succ]))
              (refine wpF_take (i := 6) ?_ (by kernel_rfl) (fun _ _ d _ _ h => by cases d <;> exact h) (by kernel_rfl) rfl (by kernel_rfl) (hS61) ?_ ?_; rotate_left; (· intro w' hS; go_simp; try with_reducible rfl); (try simp only [Act.put, List.setIfInBounds_toArray, List.set_cons_zero, List.set_cons_succ]))
              (refine wpF_take (i := 7) ?_ (by kernel_rfl) (fun _ _ d _ _ h => by cases d <;> exact h) (by kernel_rfl) rfl (by kernel_rfl) (hS61) ?_ ?_; rotate_left; (· intro w' hS; go_simp; try with_reducible rfl); (try simp only [Act.put, List.setIfInBounds_toArray, List.set_cons_zero, List.set_cons_succ]))
              (refine wpF_run (i := 8) (by kernel_rfl) rfl (by kernel_rfl) (fun K hK => ?_); go_simp; refine hK _ _ (hS61.alloc _) ?_; clear hK K; (try simp only [Act.put, List.setIfInBounds_toArray, List.set_cons_zero, List.set_cons_succ]))
              have hS9 := hS61.alloc (.cells #[.int .i64 y.k, .int .i64 y.n, .string y.s, .slice aY y.l.length cY] 24)
              have hR9 := heap_alloc_new w61 (.cells #[.int .i64 y.k, .int .i64 y.n, .string y.s, .slice aY y.l.length cY] 24)
              have hG9 := hS61.size
              (refine wpF_run (i := 9) (by kernel_rfl) rfl (by kernel_rfl) (fun K hK => ?_); go_simp; refine hK _ _ (hS9) ?_; clear hK K; (try simp only [Act.put, List.setIfInBounds_toArray, List.set_cons_zero, List.set_cons_succ]))
              (refine wpF_run (i := 10) (by kernel_rfl) rfl (by kernel_rfl) (fun K hK => ?_); go_simp; refine hK _ _ (hS9) ?_; clear hK K; (try simp only [Act.put, List.setIfInBounds_toArray, List.set_cons_zero, List.set_cons_succ]))
              refine wpF_end (by kernel_rfl) ?_
              refine hK1 _ _ (Met.intro (hJ _ _ ?_))
              repeat apply Exists.intro
              refine ⟨?_, rfl⟩
              exact ⟨_, _, _, rfl, rfl, hid hS9, hid hR9, hid (hvY.t.fr ((Fr.refl _ _).alloc _))⟩
            · go_simp
              have hSa := hS60.alloc (.cells #[.int .i64 0, .int .i64 0, .string ⟨#[]⟩, .slice none 0 0] 24)
              have hg : (w60.alloc (.cells #[.int .i64 0, .int .i64 0, .string ⟨#[]⟩, .slice none 0 0] 24)).heap[w60.heap.size]? = some (.cells #[.int .i64 0, .int .i64 0, .string ⟨#[]⟩, .slice none 0 0] 24) := heap_alloc_new w60 (.cells #[.int .i64 0, .int .i64 0, .string ⟨#[]⟩, .slice none 0 0] 24)
              have hG9 : wr.heap.size ≤ _ := hS60.size
              refine hK _ _ hSa ?_
              clear hK K
              try simp only [Act.put, List.setIfInBounds_toArray, List.set_cons_zero, List.set_cons_succ]
              refine wpF_run (i := 4) (by kernel_rfl) rfl (by kernel_rfl) (fun K hK => ?_); go_simp
              refine (HIX.out _ hSa).mono ?_
              rintro e w61 ⟨uY, rfl, hf61, hvY⟩
              obtain ⟨vY, rfl, aY, cY, usY, rfl, -⟩ := hvY.open
              have hS61 := hSa.trans' hf61
              have hgl61 := heap_lt hg
              have hg := hf61.heap hg not_false
              refine hK _ _ hS61 ?_
              clear hK K
              try simp only [Act.put, List.setIfInBounds_toArray, List.set_cons_zero, List.set_cons_succ]
              (refine wpF_take (i := 5) ?_ (by kernel_rfl) (fun _ _ d _ _ h => by cases d <;> exact h) (by kernel_rfl) rfl (by kernel_rfl) (hS61) ?_ ?_; rotate_left; (· intro w' hS; go_simp; try with_reducible rfl); (try simp only [Act.put, List.setIfInBounds_toArray, List.set_cons_zero, List.set_cons_succ]))
              (refine wpF_take (i := 6) ?_ (by kernel_rfl) (fun _ _ d _ _ h => by cases d <;> exact h) (by kernel_rfl) rfl (by kernel_rfl) (hS61) ?_ ?_; rotate_left; (· intro w' hS; go_simp; try with_reducible rfl); (try simp only [Act.put, List.setIfInBounds_toArray, List.set_cons_zero, List.set_cons_succ]))
              (refine wpF_take (i := 7) ?_ (by kernel_rfl) (fun _ _ d _ _ h => by cases d <;> exact h) (by kernel_rfl) rfl (by kernel_rfl) (hS61) ?_ ?_; rotate_left; (· intro w' hS; go_simp; try with_reducible rfl); (try simp only [Act.put, List.setIfInBounds_toArray, List.set_cons_zero, List.set_cons_succ]))
              obtain ⟨hR9, hf9, y0, y1, y2, y3, yf⟩ := set4 hg (.int .i64 y.k) (.int .i64 y.n) (.string y.s) (.slice aY y.l.length cY)
              have hS9 := hS61.trans hf9 (U := fun _ => False) (fun _ _ h => h) (fun q hq e => by have := hG9; omega)
              (refine wpF_run (i := 9) (by kernel_rfl) rfl (by kernel_rfl) (fun K hK => ?_); go_simp; refine hK _ _ (hS9) ?_; clear hK K; (try simp only [Act.put, List.setIfInBounds_toArray, List.set_cons_zero, List.set_cons_succ]))
              (refine wpF_run (i := 10) (by kernel_rfl) rfl (by kernel_rfl) (fun K hK => ?_); go_simp; refine hK _ _ (hS9) ?_; clear hK K; (try simp only [Act.put, List.setIfInBounds_toArray, List.set_cons_zero, List.set_cons_succ]))
              refine wpF_end (by kernel_rfl) ?_
              refine hK1 _ _ (Met.intro (hJ _ _ ?_))
              repeat apply Exists.intro
              refine ⟨?_, rfl⟩
              exact ⟨_, _, _, rfl, rfl, hid hS9, hid hR9, hid ((hvY.frame hf9 fun q hq e => by have := hgl61; omega).t)⟩
          · go_simp
            have hSa := hSd.alloc (.cells #[.int .i64 0, .int .i64 0, .string ⟨#[]⟩, .slice none 0 0] 24)
            have hg : (wr.drew.alloc (.cells #[.int .i64 0, .int .i64 0, .string ⟨#[]⟩, .slice none 0 0] 24)).heap[wr.heap.size]? = some (.cells #[.int .i64 0, .int .i64 0, .string ⟨#[]⟩, .slice none 0 0] 24) := heap_alloc_new wr.drew (.cells #[.int .i64 0, .int .i64 0, .string ⟨#[]⟩, .slice none 0 0] 24)
            have hG9 : wr.heap.size ≤ _ := hSd.size
            refine hK _ _ hSa ?_
            clear hK K
            try simp only [Act.put, List.setIfInBounds_toArray, List.set_cons_zero, List.set_cons_succ]
            refine wpF_run (i := 3) (by kernel_rfl) rfl (by kernel_rfl) (fun K hK => ?_); go_simp
            refine (vI_any ((m : Int) + 1) _).mono ?_
            rintro e w60 ⟨rfl, hf60⟩
            have hS60 := hSa.trans' hf60
            have hgl60 := heap_lt hg
            have hg := hf60.heap hg not_false
            refine hK _ _ hS60 ?_
            clear hK K
            try simp only [Act.put, List.setIfInBounds_toArray, List.set_cons_zero, List.set_cons_succ]
            refine wpF_run (i := 4) (by kernel_rfl) rfl (by kernel_rfl) (fun K hK => ?_); go_simp
            refine (HIX.out _ hS60).mono ?_
            rintro e w61 ⟨uY, rfl, hf61, hvY⟩
            obtain ⟨vY, rfl, aY, cY, usY, rfl, -⟩ := hvY.open
            have hS61 := hS60.trans' hf61
            have hgl61 := heap_lt hg
            have hg := hf61.heap hg not_false
            refine hK _ _ hS61 ?_
            clear hK K
            try simp only [Act.put, List.setIfInBounds_toArray, List.set_cons_zero, List.set_cons_succ]
            (refine wpF_take (i := 5) ?_ (by kernel_rfl) (fun _ _ d _ _ h => by cases d <;> exact h) (by kernel_rfl) rfl (by kernel_rfl) (hS61) ?_ ?_; rotate_left; (· intro w' hS; go_simp; try with_reducible rfl); (try simp only [Act.put, List.setIfInBounds_toArray, List.set_cons_zero, List.set_cons_succ]))
            (refine wpF_take (i := 6) ?_ (by kernel_rfl) (fun _ _ d _ _ h => by cases d <;> exact h) (by kernel_rfl) rfl (by kernel_rfl) (hS61) ?_ ?_; rotate_left; (· intro w' hS; go_simp; try with_reducible rfl); (try simp only [Act.put, List.setIfInBounds_toArray, List.set_cons_zero, List.set_cons_succ]))
            (refine wpF_take (i := 7) ?_ (by kernel_rfl) (fun _ _ d _ _ h => by cases d <;> exact h) (by kernel_rfl) rfl (by kernel_rfl) (hS61) ?_ ?_; rotate_left; (· intro w' hS; go_simp; try with_reducible rfl); (try simp only [Act.put, List.setIfInBounds_toArray, List.set_cons_zero, List.set_cons_succ]))
            obtain ⟨hR9, hf9, y0, y1, y2, y3, yf⟩ := set4 hg (.int .i64 y.k) (.int .i64 y.n) (.string y.s) (.slice aY y.l.length cY)
            have hS9 := hS61.trans hf9 (U := fun _ => False) (fun _ _ h => h) (fun q hq e => by have := hG9; omega)
            (refine wpF_run (i := 9) (by kernel_rfl) rfl (by kernel_rfl) (fun K hK => ?_); go_simp; refine hK _ _ (hS9) ?_; clear hK K; (try simp only [Act.put, List.setIfInBounds_toArray, List.set_cons_zero, List.set_cons_succ]))
            (refine wpF_run (i := 10) (by kernel_rfl) rfl (by kernel_rfl) (fun K hK => ?_); go_simp; refine hK _ _ (hS9) ?_; clear hK K; (try simp only [Act.put, List.setIfInBounds_toArray, List.set_cons_zero, List.set_cons_succ]))
            refine wpF_end (by kernel_rfl) ?_
            refine hK1 _ _ (Met.intro (hJ _ _ ?_))
            repeat apply Exists.intro
            refine ⟨?_, rfl⟩
            exact ⟨_, _, _, rfl, rfl, hid hS9, hid hR9, hid ((hvY.frame hf9 fun q hq e => by have := hgl61; omega).t)⟩
        case rest =>
        obtain ⟨g2, aY, cY, rfl, rfl, HS2, HG2, HVY⟩ := hcut
        obtain ⟨ax5, cx5, us5, he5, -, -, -, hb5, hi5⟩ := HV5.out
        simp only [Value.slice.injEq] at he5
        obtain ⟨rfl, -, rfl⟩ := he5
        obtain ⟨b, o, q, a', c', rfl, -, hq, hvq, e0, e1, e2, e3⟩ := VL.elem hb5 hi5 m hlt
        have hfw := HS.out.trans' (HF.out.trans' HS2.out)
        replace e0 := hfw.cell e0 not_false
        replace e1 := hfw.cell e1 not_false
        replace e2 := hfw.cell e2 not_false
        replace e3 := hfw.cell e3 not_false
        have HQ := hid hvq; have HFW := hid hfw; have HQQ := hid hq
        clear hb5 hi5 hvq hfw hq
        by_cases hmk : m = k
        · have q2 : ((m : Int) == (k : Int)) = true := by rw [hmk]; simp
          have hsame : V.same y x = true := V.same_eq.2 (HYK.out hmk)
          have hfa := (Fr.refl (fun _ => False) wc).alloc (.cells #[.int .i64 x.k, .int .i64 x.n, .string x.s, .slice a9 x.l.length c9] 24)
          have hfq := (Fr.refl (fun _ => False) wc).alloc (.cells #[.int .i64 q.k, .int .i64 q.n, .string q.s, .slice a' q.l.length c'] 24)
          have z0 := hfq.cell (HFW.out.cell HZ0.out not_false) not_false
          have z1 := hfq.cell (HFW.out.cell HZ1.out not_false) not_false
          have z2 := hfq.cell (HFW.out.cell HZ2.out not_false) not_false
          have z3 := hfq.cell (HFW.out.cell HZ3.out not_false) not_false
          have p0 : World.cell? (wc.alloc (.cells #[.int .i64 x.k, .int .i64 x.n, .string x.s, .slice a9 x.l.length c9] 24)) ⟨g2, 0, none⟩ = some (.int .i64 y.k) := (cell_of_row _ _ 0 _ _ _ (hfa.heap HG2.out not_false)).trans rfl
          have p1 : World.cell? (wc.alloc (.cells #[.int .i64 x.k, .int .i64 x.n, .string x.s, .slice a9 x.l.length c9] 24)) ⟨g2, 1, none⟩ = some (.int .i64 y.n) := (cell_of_row _ _ 1 _ _ _ (hfa.heap HG2.out not_false)).trans rfl
          have p2 : World.cell? (wc.alloc (.cells #[.int .i64 x.k, .int .i64 x.n, .string x.s, .slice a9 x.l.length c9] 24)) ⟨g2, 2, none⟩ = some (.string y.s) := (cell_of_row _ _ 2 _ _ _ (hfa.heap HG2.out not_false)).trans rfl
          have p3 : World.cell? (wc.alloc (.cells #[.int .i64 x.k, .int .i64 x.n, .string x.s, .slice a9 x.l.length c9] 24)) ⟨g2, 3, none⟩ = some (.slice aY y.l.length cY) := (cell_of_row _ _ 3 _ _ _ (hfa.heap HG2.out not_false)).trans rfl
          have hcl := vsame_any y.size y x (Nat.le_refl _) T T _ _ _ (HVY.out.fr hfa) (HX5.out.fr (HFW.out.trans' hfa))
          rw [hsame] at hcl
          have HCL := hid hcl; have HFA := hid hfa
          clear hcl hfa hfq hsame hmk
          go_wp2_with fail
          refine HCL.out.mono ?_
          rintro e w90 ⟨rfl, hf90⟩
          have HF90 := hid (HF.out.trans' (HS2.out.trans' (HFA.out.trans' hf90)))
          clear hf90 z0 z1 z2 z3 e0 e1 e2 e3 p0 p1 p2 p3
          go_wp2_with fail
          go_roundw
          case rel =>
            repeat apply Exists.intro
            exact ⟨⟨m + 1, by omega, by go_num, HF90⟩, rfl⟩
          case measure => simp [intOf]; omega
        · have q2 : ((m : Int) == (k : Int)) = false := by simp; omega
          have hsame : V.same y q = true := V.same_eq.2 (Option.some.inj ((HYN.out hmk).symm.trans HQQ.out))
          have hfa := (Fr.refl (fun _ => False) wc).alloc (.cells #[.int .i64 q.k, .int .i64 q.n, .string q.s, .slice a' q.l.length c'] 24)
          have p0 : World.cell? (wc.alloc (.cells #[.int .i64 q.k, .int .i64 q.n, .string q.s, .slice a' q.l.length c'] 24)) ⟨g2, 0, none⟩ = some (.int .i64 y.k) := (cell_of_row _ _ 0 _ _ _ (hfa.heap HG2.out not_false)).trans rfl
          have p1 : World.cell? (wc.alloc (.cells #[.int .i64 q.k, .int .i64 q.n, .string q.s, .slice a' q.l.length c'] 24)) ⟨g2, 1, none⟩ = some (.int .i64 y.n) := (cell_of_row _ _ 1 _ _ _ (hfa.heap HG2.out not_false)).trans rfl
          have p2 : World.cell? (wc.alloc (.cells #[.int .i64 q.k, .int .i64 q.n, .string q.s, .slice a' q.l.length c'] 24)) ⟨g2, 2, none⟩ = some (.string y.s) := (cell_of_row _ _ 2 _ _ _ (hfa.heap HG2.out not_false)).trans rfl
          have p3 : World.cell? (wc.alloc (.cells #[.int .i64 q.k, .int .i64 q.n, .string q.s, .slice a' q.l.length c'] 24)) ⟨g2, 3, none⟩ = some (.slice aY y.l.length cY) := (cell_of_row _ _ 3 _ _ _ (hfa.heap HG2.out not_false)).trans rfl
          have hcl := vsame_any y.size y q (Nat.le_refl _) T T _ _ _ (HVY.out.fr hfa) (VIn.fr (HQ.out.mono fun _ _ _ => trivial) (HFW.out.trans' hfa))
          rw [hsame] at hcl
          have HCL := hid hcl; have HFA := hid hfa
          clear hcl hfa hsame hmk
          go_wp2_with fail
          refine HCL.out.mono ?_
          rintro e w90 ⟨rfl, hf90⟩
          have HF90 := hid (HF.out.trans' (HS2.out.trans' (HFA.out.trans' hf90)))
          clear hf90 e0 e1 e2 e3 p0 p1 p2 p3
          go_wp2_with fail
          go_roundw
          case rel =>
            repeat apply Exists.intro
            exact ⟨⟨m + 1, by omega, by go_num, HF90⟩, rfl⟩
          case measure => simp [intOf]; omega
      · obtain rfl : m = l.length := by omega
        go_wp2_with fail
        go_meet
        exact HF
  case rest =>
  have HE := hcut
  have HSE := hid (HS.out.trans' HE.out)
  clear HC HVP HG hcut
  have hs1' : (s.size : Int) ≤ 100 := by omega
  have hwr2 : IntKind.i64.wrap ((s.size : Int) + 1) = (s.size : Int) + 1 := IntWalk.i64_in _ (by omega)
  have hpa : ∀ w1, Calls Try.prog 18 #[.agg #[.int .i64 2, .int .i64 0, .string s, .slice none 0 0], .agg #[.int .i64 0, .int .i64 ((s.size : Int) + 1), .string ⟨#[]⟩, .slice none 0 0], .agg #[.int .i64 2, .int .i64 0, .string ⟨#[120]⟩, .slice none 0 0]] w1 (GD (fun b => w1.heap.size ≤ b) w1 V0 10) := fun w1 => by
    have := nput_any (VS s) (VI ((s.size : Int) + 1)) (VS ⟨#[120]⟩) _ _ _ w1 (VS.inn _ _ _) (VI.inn _ _ _) (VS.inn _ _ _) (show 1 + s.size + 0 ≤ 1073741824 by omega) (by decide)
    rw [nPut_beyond s ⟨#[120]⟩ _ rfl (by omega)] at this
    exact this
  have hpb : ∀ w1, Calls Try.prog 18 #[.agg #[.int .i64 2, .int .i64 0, .string s, .slice none 0 0], .agg #[.int .i64 0, .int .i64 1, .string ⟨#[]⟩, .slice none 0 0], .agg #[.int .i64 2, .int .i64 0, .string ⟨#[120, 121]⟩, .slice none 0 0]] w1 (GD (fun b => w1.heap.size ≤ b) w1 V0 13) := fun w1 => by
    have := nput_any (VS s) (VI 1) (VS ⟨#[120, 121]⟩) _ _ _ w1 (VS.inn _ _ _) (VI.inn _ _ _) (VS.inn _ _ _) (show 1 + s.size + 0 ≤ 1073741824 by omega) (by decide)
    rw [nPut_two s ⟨#[120, 121]⟩ 1 (by decide)] at this
    exact this
  have hpc : ∀ w1, Fr (fun _ => False) w5 w1 → Calls Try.prog 18 #[.agg #[.int .i64 0, .int .i64 1, .string ⟨#[]⟩, .slice none 0 0], .agg #[.int .i64 0, .int .i64 1, .string ⟨#[]⟩, .slice none 0 0], .agg #[.int .i64 x.k, .int .i64 x.n, .string x.s, .slice a9 x.l.length c9]] w1 (GD (fun b => w1.heap.size ≤ b) w1 V0 1) := fun w1 hf => by
    have := nput_any (VI 1) (VI 1) x _ _ _ w1 (VI.inn _ _ _) (VI.inn _ _ _) (HX5.out.fr hf) (by decide) (by have := HXS.out; omega)
    rw [nPut_none] at this
    exact this
  have HPA := hid hpa; have HPB := hid hpb; have HPC := hid hpc
  clear hpa hpb hpc
  go_wp2_with fail
  refine (vS_any s _).mono ?_
  rintro e wa ⟨rfl, hfa⟩
  go_wp2_with fail
  refine (vI_any ((s.size : Int) + 1) _).mono ?_
  rintro e wb ⟨rfl, hfb⟩
  go_wp2_with fail
  refine (vS_any ⟨#[120]⟩ _).mono ?_
  rintro e wc2 ⟨rfl, hfc⟩
  go_wp2_with fail
  refine (HPA.out _).mono ?_
  rintro e wd ⟨ud, rfl, hfd, hvd⟩
  obtain ⟨vd, rfl, ad, cd, usd, rfl, -⟩ := hvd.open
  have HFD := hid (HSE.out.trans' (hfa.trans' (hfb.trans' (hfc.trans' hfd))))
  clear hfa hfb hfc hfd hvd
  go_upto_region 21 with fail
  have hx1 := HFD.out.alloc (.cells #[.int .i64 V0.k, .int .i64 V0.n, .string V0.s, .slice ad V0.l.length cd] 24)
  generalize wd.alloc (.cells #[.int .i64 V0.k, .int .i64 V0.n, .string V0.s, .slice ad V0.l.length cd] 24) = W1 at *
  have HX1 := hid hx1
  clear hx1
  go_wp2_with fail
  refine (vS_any s _).mono ?_
  rintro e wa ⟨rfl, hfa⟩
  go_wp2_with fail
  refine (vI_any 1 _).mono ?_
  rintro e wb ⟨rfl, hfb⟩
  go_wp2_with fail
  refine (vS_any ⟨#[120, 121]⟩ _).mono ?_
  rintro e wc2 ⟨rfl, hfc⟩
  go_wp2_with fail
  refine (HPB.out _).mono ?_
  rintro e wd ⟨ud, rfl, hfd, hvd⟩
  obtain ⟨vd, rfl, ad, cd, usd, rfl, -⟩ := hvd.open
  have HFD2 := hid (HX1.out.trans' (hfa.trans' (hfb.trans' (hfc.trans' hfd))))
  clear hfa hfb hfc hfd hvd
  go_upto_region 22 with fail
  have hx1 := HFD2.out.alloc (.cells #[.int .i64 V0.k, .int .i64 V0.n, .string V0.s, .slice ad V0.l.length cd] 24)
  generalize wd.alloc (.cells #[.int .i64 V0.k, .int .i64 V0.n, .string V0.s, .slice ad V0.l.length cd] 24) = W2 at *
  have HW2 := hid hx1
  clear hx1
  go_cut [22] from 131 to 137 (fun c wx => c = .int .i64 1 ∧ Hid (Fr (fun _ => False) W2 wx))
  case first =>
    rename_i J K1 hJ hK1
    refine wpF_begin [2, 4, 5, 6] (fun w' => Fr (fun _ => False) W2 w') (by kernel_rfl) ?_
    have hSd : Fr (fun _ => False) W2 W2.drew := (Fr.refl _ _).drew
    (refine wpF_take (i := 2) ?_ (by kernel_rfl) (fun _ _ d _ _ h => by cases d <;> exact h) (by kernel_rfl) rfl (by kernel_rfl) (hSd) ?_ ?_; rotate_left; (· intro w' hS; have hS := HW2.out.trans' hS; have z0 := Fr.cell hS HZ0.out not_false; have z1 := Fr.cell hS HZ1.out not_false; have z2 := Fr.cell hS HZ2.out not_false; have z3 := Fr.cell hS HZ3.out not_false; go_simp; try with_reducible rfl); (try simp only [Act.put, List.setIfInBounds_toArray, List.set_cons_zero, List.set_cons_succ]))
    refine wpF_run2 (i := 0) (j := 7) (by kernel_rfl) rfl rfl (by kernel_rfl) (by kernel_rfl) (fun K hK => ?_) (fun K hK => ?_)
    · go_simp
      refine (vI_any 1 _).mono ?_
      rintro e w60 ⟨rfl, hf60⟩
      have hS60 := hSd.trans' hf60
      refine hK _ _ hS60 ?_
      clear hK K
      try simp only [Act.put, List.setIfInBounds_toArray, List.set_cons_zero, List.set_cons_succ]
      refine wpF_run2 (i := 1) (j := 7) (by kernel_rfl) rfl rfl (by kernel_rfl) (by kernel_rfl) (fun K hK => ?_) (fun K hK => ?_)
      · go_simp
        refine (vI_any 1 _).mono ?_
        rintro e w61 ⟨rfl, hf61⟩
        have hS61 := hS60.trans' hf61
        refine hK _ _ hS61 ?_
        clear hK K
        try simp only [Act.put, List.setIfInBounds_toArray, List.set_cons_zero, List.set_cons_succ]
        refine wpF_run2 (i := 3) (j := 7) (by kernel_rfl) rfl rfl (by kernel_rfl) (by kernel_rfl) (fun K hK => ?_) (fun K hK => ?_)
        · go_simp
          refine (HPC.out _ (HW2.out.trans' hS61)).mono ?_
          rintro e w62 ⟨uP, rfl, hf62, hvP⟩
          obtain ⟨vP, rfl, aP, cP, usP, rfl, -⟩ := hvP.open
          have hS62 := hS61.trans' hf62
          refine hK _ _ hS62 ?_
          clear hK K
          try simp only [Act.put, List.setIfInBounds_toArray, List.set_cons_zero, List.set_cons_succ]
          (refine wpF_take (i := 4) ?_ (by kernel_rfl) (fun _ _ d _ _ h => by cases d <;> exact h) (by kernel_rfl) rfl (by kernel_rfl) (hS62) ?_ ?_; rotate_left; (· intro w' hS; go_simp; try with_reducible rfl); (try simp only [Act.put, List.setIfInBounds_toArray, List.set_cons_zero, List.set_cons_succ]))
          (refine wpF_take (i := 5) ?_ (by kernel_rfl) (fun _ _ d _ _ h => by cases d <;> exact h) (by kernel_rfl) rfl (by kernel_rfl) (hS62) ?_ ?_; rotate_left; (· intro w' hS; go_simp; try with_reducible rfl); (try simp only [Act.put, List.setIfInBounds_toArray, List.set_cons_zero, List.set_cons_succ]))
          (refine wpF_take (i := 6) ?_ (by kernel_rfl) (fun _ _ d _ _ h => by cases d <;> exact h) (by kernel_rfl) rfl (by kernel_rfl) (hS62) ?_ ?_; rotate_left; (· intro w' hS; go_simp; try with_reducible rfl); (try simp only [Act.put, List.setIfInBounds_toArray, List.set_cons_zero, List.set_cons_succ]))
          (refine wpF_run (i := 7) (by kernel_rfl) rfl (by kernel_rfl) (fun K hK => ?_); go_simp; refine hK _ _ (hS62.alloc _) ?_; clear hK K; (try simp only [Act.put, List.setIfInBounds_toArray, List.set_cons_zero, List.set_cons_succ]))
          have hS9 := hS62.alloc (.cells #[.int .i64 V0.k, .int .i64 V0.n, .string V0.s, .slice aP V0.l.length cP] 24)
          have hR9 := heap_alloc_new w62 (.cells #[.int .i64 V0.k, .int .i64 V0.n, .string V0.s, .slice aP V0.l.length cP] 24)
          have hG9 := hS62.size
          (refine wpF_run (i := 8) (by kernel_rfl) rfl (by kernel_rfl) (fun K hK => ?_); go_simp; refine hK _ _ (hS9) ?_; clear hK K; (try simp only [Act.put, List.setIfInBounds_toArray, List.set_cons_zero, List.set_cons_succ]))
          (refine wpF_run (i := 9) (by kernel_rfl) rfl (by kernel_rfl) (fun K hK => ?_); go_simp; refine hK _ _ (hS9) ?_; clear hK K; (try simp only [Act.put, List.setIfInBounds_toArray, List.set_cons_zero, List.set_cons_succ]))
          refine wpF_end (by kernel_rfl) ?_
          refine hK1 _ _ (Met.intro (hJ _ _ ?_))
          repeat apply Exists.intro
          refine ⟨?_, rfl⟩
          exact ⟨rfl, hid hS9⟩
        · go_simp
          have hSa := hS61.alloc (.cells #[.int .i64 0, .int .i64 0, .string ⟨#[]⟩, .slice none 0 0] 24)
          have hg : (w61.alloc (.cells #[.int .i64 0, .int .i64 0, .string ⟨#[]⟩, .slice none 0 0] 24)).heap[w61.heap.size]? = some (.cells #[.int .i64 0, .int .i64 0, .string ⟨#[]⟩, .slice none 0 0] 24) := heap_alloc_new w61 (.cells #[.int .i64 0, .int .i64 0, .string ⟨#[]⟩, .slice none 0 0] 24)
          have hG9 : W2.heap.size ≤ _ := hS61.size
          refine hK _ _ hSa ?_
          clear hK K
          try simp only [Act.put, List.setIfInBounds_toArray, List.set_cons_zero, List.set_cons_succ]
          refine wpF_run (i := 3) (by kernel_rfl) rfl (by kernel_rfl) (fun K hK => ?_); go_simp
          refine (HPC.out _ (HW2.out.trans' hSa)).mono ?_
          rintro e w62 ⟨uP, rfl, hf62, hvP⟩
          obtain ⟨vP, rfl, aP, cP, usP, rfl, -⟩ := hvP.open
          have hS62 := hSa.trans' hf62
          have hgl62 := heap_lt hg
          have hg := hf62.heap hg not_false
          refine hK _ _ hS62 ?_
          clear hK K
          try simp only [Act.put, List.setIfInBounds_toArray, List.set_cons_zero, List.set_cons_succ]
          (refine wpF_take (i := 4) ?_ (by kernel_rfl) (fun _ _ d _ _ h => by cases d <;> exact h) (by kernel_rfl) rfl (by kernel_rfl) (hS62) ?_ ?_; rotate_left; (· intro w' hS; go_simp; try with_reducible rfl); (try simp only [Act.put, List.setIfInBounds_toArray, List.set_cons_zero, List.set_cons_succ]))
          (refine wpF_take (i := 5) ?_ (by kernel_rfl) (fun _ _ d _ _ h => by cases d <;> exact h) (by kernel_rfl) rfl (by kernel_rfl) (hS62) ?_ ?_; rotate_left; (· intro w' hS; go_simp; try with_reducible rfl); (try simp only [Act.put, List.setIfInBounds_toArray, List.set_cons_zero, List.set_cons_succ]))
          (refine wpF_take (i := 6) ?_ (by kernel_rfl) (fun _ _ d _ _ h => by cases d <;> exact h) (by kernel_rfl) rfl (by kernel_rfl) (hS62) ?_ ?_; rotate_left; (· intro w' hS; go_simp; try with_reducible rfl); (try simp only [Act.put, List.setIfInBounds_toArray, List.set_cons_zero, List.set_cons_succ]))
          obtain ⟨hR9, hf9, y0, y1, y2, y3, yf⟩ := set4 hg (.int .i64 V0.k) (.int .i64 V0.n) (.string V0.s) (.slice aP V0.l.length cP)
          have hS9 := hS62.trans hf9 (U := fun _ => False) (fun _ _ h => h) (fun q hq e => by have := hG9; omega)
          (refine wpF_run (i := 8) (by kernel_rfl) rfl (by kernel_rfl) (fun K hK => ?_); go_simp; refine hK _ _ (hS9) ?_; clear hK K; (try simp only [Act.put, List.setIfInBounds_toArray, List.set_cons_zero, List.set_cons_succ]))
          (refine wpF_run (i := 9) (by kernel_rfl) rfl (by kernel_rfl) (fun K hK => ?_); go_simp; refine hK _ _ (hS9) ?_; clear hK K; (try simp only [Act.put, List.setIfInBounds_toArray, List.set_cons_zero, List.set_cons_succ]))
          refine wpF_end (by kernel_rfl) ?_
          refine hK1 _ _ (Met.intro (hJ _ _ ?_))
          repeat apply Exists.intro
          refine ⟨?_, rfl⟩
          exact ⟨rfl, hid hS9⟩
      · go_simp
        have hSa := hS60.alloc (.cells #[.int .i64 0, .int .i64 0, .string ⟨#[]⟩, .slice none 0 0] 24)
        have hg : (w60.alloc (.cells #[.int .i64 0, .int .i64 0, .string ⟨#[]⟩, .slice none 0 0] 24)).heap[w60.heap.size]? = some (.cells #[.int .i64 0, .int .i64 0, .string ⟨#[]⟩, .slice none 0 0] 24) := heap_alloc_new w60 (.cells #[.int .i64 0, .int .i64 0, .string ⟨#[]⟩, .slice none 0 0] 24)
        have hG9 : W2.heap.size ≤ _ := hS60.size
        refine hK _ _ hSa ?_
        clear hK K
        try simp only [Act.put, List.setIfInBounds_toArray, List.set_cons_zero, List.set_cons_succ]
        refine wpF_run (i := 1) (by kernel_rfl) rfl (by kernel_rfl) (fun K hK => ?_); go_simp
        refine (vI_any 1 _).mono ?_
        rintro e w61 ⟨rfl, hf61⟩
        have hS61 := hSa.trans' hf61
        have hgl61 := heap_lt hg
        have hg := hf61.heap hg not_false
        refine hK _ _ hS61 ?_
        clear hK K
        try simp only [Act.put, List.setIfInBounds_toArray, List.set_cons_zero, List.set_cons_succ]
        refine wpF_run (i := 3) (by kernel_rfl) rfl (by kernel_rfl) (fun K hK => ?_); go_simp
        refine (HPC.out _ (HW2.out.trans' hS61)).mono ?_
        rintro e w62 ⟨uP, rfl, hf62, hvP⟩
        obtain ⟨vP, rfl, aP, cP, usP, rfl, -⟩ := hvP.open
        have hS62 := hS61.trans' hf62
        have hgl62 := heap_lt hg
        have hg := hf62.heap hg not_false
        refine hK _ _ hS62 ?_
        clear hK K
        try simp only [Act.put, List.setIfInBounds_toArray, List.set_cons_zero, List.set_cons_succ]
        (refine wpF_take (i := 4) ?_ (by kernel_rfl) (fun _ _ d _ _ h => by cases d <;> exact h) (by kernel_rfl) rfl (by kernel_rfl) (hS62) ?_ ?_; rotate_left; (· intro w' hS; go_simp; try with_reducible rfl); (try simp only [Act.put, List.setIfInBounds_toArray, List.set_cons_zero, List.set_cons_succ]))
        (refine wpF_take (i := 5) ?_ (by kernel_rfl) (fun _ _ d _ _ h => by cases d <;> exact h) (by kernel_rfl) rfl (by kernel_rfl) (hS62) ?_ ?_; rotate_left; (· intro w' hS; go_simp; try with_reducible rfl); (try simp only [Act.put, List.setIfInBounds_toArray, List.set_cons_zero, List.set_cons_succ]))
        (refine wpF_take (i := 6) ?_ (by kernel_rfl) (fun _ _ d _ _ h => by cases d <;> exact h) (by kernel_rfl) rfl (by kernel_rfl) (hS62) ?_ ?_; rotate_left; (· intro w' hS; go_simp; try with_reducible rfl); (try simp only [Act.put, List.setIfInBounds_toArray, List.set_cons_zero, List.set_cons_succ]))
        obtain ⟨hR9, hf9, y0, y1, y2, y3, yf⟩ := set4 hg (.int .i64 V0.k) (.int .i64 V0.n) (.string V0.s) (.slice aP V0.l.length cP)
        have hS9 := hS62.trans hf9 (U := fun _ => False) (fun _ _ h => h) (fun q hq e => by have := hG9; omega)
        (refine wpF_run (i := 8) (by kernel_rfl) rfl (by kernel_rfl) (fun K hK => ?_); go_simp; refine hK _ _ (hS9) ?_; clear hK K; (try simp only [Act.put, List.setIfInBounds_toArray, List.set_cons_zero, List.set_cons_succ]))
        (refine wpF_run (i := 9) (by kernel_rfl) rfl (by kernel_rfl) (fun K hK => ?_); go_simp; refine hK _ _ (hS9) ?_; clear hK K; (try simp only [Act.put, List.setIfInBounds_toArray, List.set_cons_zero, List.set_cons_succ]))
        refine wpF_end (by kernel_rfl) ?_
        refine hK1 _ _ (Met.intro (hJ _ _ ?_))
        repeat apply Exists.intro
        refine ⟨?_, rfl⟩
        exact ⟨rfl, hid hS9⟩
    · go_simp
      have hSa := hSd.alloc (.cells #[.int .i64 0, .int .i64 0, .string ⟨#[]⟩, .slice none 0 0] 24)
      have hg : (W2.drew.alloc (.cells #[.int .i64 0, .int .i64 0, .string ⟨#[]⟩, .slice none 0 0] 24)).heap[W2.heap.size]? = some (.cells #[.int .i64 0, .int .i64 0, .string ⟨#[]⟩, .slice none 0 0] 24) := heap_alloc_new W2.drew (.cells #[.int .i64 0, .int .i64 0, .string ⟨#[]⟩, .slice none 0 0] 24)
      have hG9 : W2.heap.size ≤ _ := hSd.size
      refine hK _ _ hSa ?_
      clear hK K
      try simp only [Act.put, List.setIfInBounds_toArray, List.set_cons_zero, List.set_cons_succ]
      refine wpF_run (i := 0) (by kernel_rfl) rfl (by kernel_rfl) (fun K hK => ?_); go_simp
      refine (vI_any 1 _).mono ?_
      rintro e w60 ⟨rfl, hf60⟩
      have hS60 := hSa.trans' hf60
      have hgl60 := heap_lt hg
      have hg := hf60.heap hg not_false
      refine hK _ _ hS60 ?_
      clear hK K
      try simp only [Act.put, List.setIfInBounds_toArray, List.set_cons_zero, List.set_cons_succ]
      refine wpF_run (i := 1) (by kernel_rfl) rfl (by kernel_rfl) (fun K hK => ?_); go_simp
      refine (vI_any 1 _).mono ?_
      rintro e w61 ⟨rfl, hf61⟩
      have hS61 := hS60.trans' hf61
      have hgl61 := heap_lt hg
      have hg := hf61.heap hg not_false
      refine hK _ _ hS61 ?_
      clear hK K
      try simp only [Act.put, List.setIfInBounds_toArray, List.set_cons_zero, List.set_cons_succ]
      refine wpF_run (i := 3) (by kernel_rfl) rfl (by kernel_rfl) (fun K hK => ?_); go_simp
      refine (HPC.out _ (HW2.out.trans' hS61)).mono ?_
      rintro e w62 ⟨uP, rfl, hf62, hvP⟩
      obtain ⟨vP, rfl, aP, cP, usP, rfl, -⟩ := hvP.open
      have hS62 := hS61.trans' hf62
      have hgl62 := heap_lt hg
      have hg := hf62.heap hg not_false
      refine hK _ _ hS62 ?_
      clear hK K
      try simp only [Act.put, List.setIfInBounds_toArray, List.set_cons_zero, List.set_cons_succ]
      (refine wpF_take (i := 4) ?_ (by kernel_rfl) (fun _ _ d _ _ h => by cases d <;> exact h) (by kernel_rfl) rfl (by kernel_rfl) (hS62) ?_ ?_; rotate_left; (· intro w' hS; go_simp; try with_reducible rfl); (try simp only [Act.put, List.setIfInBounds_toArray, List.set_cons_zero, List.set_cons_succ]))
      (refine wpF_take (i := 5) ?_ (by kernel_rfl) (fun _ _ d _ _ h => by cases d <;> exact h) (by kernel_rfl) rfl (by kernel_rfl) (hS62) ?_ ?_; rotate_left; (· intro w' hS; go_simp; try with_reducible rfl); (try simp only [Act.put, List.setIfInBounds_toArray, List.set_cons_zero, List.set_cons_succ]))
      (refine wpF_take (i := 6) ?_ (by kernel_rfl) (fun _ _ d _ _ h => by cases d <;> exact h) (by kernel_rfl) rfl (by kernel_rfl) (hS62) ?_ ?_; rotate_left; (· intro w' hS; go_simp; try with_reducible rfl); (try simp only [Act.put, List.setIfInBounds_toArray, List.set_cons_zero, List.set_cons_succ]))
      obtain ⟨hR9, hf9, y0, y1, y2, y3, yf⟩ := set4 hg (.int .i64 V0.k) (.int .i64 V0.n) (.string V0.s) (.slice aP V0.l.length cP)
      have hS9 := hS62.trans hf9 (U := fun _ => False) (fun _ _ h => h) (fun q hq e => by have := hG9; omega)
      (refine wpF_run (i := 8) (by kernel_rfl) rfl (by kernel_rfl) (fun K hK => ?_); go_simp; refine hK _ _ (hS9) ?_; clear hK K; (try simp only [Act.put, List.setIfInBounds_toArray, List.set_cons_zero, List.set_cons_succ]))
      (refine wpF_run (i := 9) (by kernel_rfl) rfl (by kernel_rfl) (fun K hK => ?_); go_simp; refine hK _ _ (hS9) ?_; clear hK K; (try simp only [Act.put, List.setIfInBounds_toArray, List.set_cons_zero, List.set_cons_succ]))
      refine wpF_end (by kernel_rfl) ?_
      refine hK1 _ _ (Met.intro (hJ _ _ ?_))
      repeat apply Exists.intro
      refine ⟨?_, rfl⟩
      exact ⟨rfl, hid hS9⟩
  case rest =>
  obtain ⟨rfl, HE2⟩ := hcut
  go_wp2_with fail
  go_ret
  exact ⟨rfl, HF5.out.trans' (HW2.out.trans' HE2.out)⟩
end Go.Proofs.Ytjngddmjgcecnaa
