import Derived.Test.YtbegahbagnflnaaGreatDoorMn07
import Derived.Test.YtbegahbagnflnaaGreatDoorMn04
import Derived.Test.YtbegahbagnflnaaGreatDoorMn06
import Derived.Test.YtbegahbagnflnaaGreatDoorMn02
import Derived.Test.YtbegahbagnflnaaGreatDoorMn08
import Derived.Test.YtbegahbagnflnaaGreatDoorMn01
set_option linter.unusedSimpArgs false
set_option linter.unusedVariables false
set_option linter.unnecessarySimpa false
namespace Go.Proofs.YtbegahbagnflnaaGreatDoor
section
open Go.RowKit
theorem dsmall_any (c : Nat) (hc : c < 256) (w : World) : Calls Tryz.prog 120 #[.int .u8 c] w fun e w' => e = .returned (.bool (smallc c)) ∧ w = w' := by
 have h3 : (97 ≤ c ∧ c ≤ 122) ∨ 122 < c ∨ c = 95 ∨ (c < 97 ∧ c ≠ 95) := by omega
 rcases h3 with ⟨h1, h2⟩ | h1 | h1 | ⟨h1, h2⟩
 ·have HR := hid (show smallc c = true from small_of (.inl ⟨h1, h2⟩))
  have g1 : (c : Int) ≥ 97 := by omega
  have g2 : (c : Int) ≤ 122 := by omega
  go_enter Tryz.func120, Tryz.ntmps120
  go_wp2
  go_ret
  exact ⟨ret_bool HR.out.symm, rfl⟩
 ·have HR := hid (show smallc c = false from Bool.eq_false_iff.2 fun h => by have := small_cases h; omega)
  have g1 : (c : Int) ≥ 97 := by omega
  have g2 : ¬ (c : Int) ≤ 122 := by omega
  have g3 : ((c : Int) == 95) = false := by rw [beq_eq_false_iff_ne]; omega
  go_enter Tryz.func120, Tryz.ntmps120
  go_wp2
  go_ret
  exact ⟨ret_bool HR.out.symm, rfl⟩
 ·subst h1
  go_enter Tryz.func120, Tryz.ntmps120
  go_wp2
  go_ret
  exact ⟨rfl, rfl⟩
 ·have HR := hid (show smallc c = false from Bool.eq_false_iff.2 fun h => by have := small_cases h; omega)
  have g1 : ¬ (c : Int) ≥ 97 := by omega
  have g3 : ((c : Int) == 95) = false := by rw [beq_eq_false_iff_ne]; omega
  go_enter Tryz.func120, Tryz.ntmps120
  go_wp2
  go_ret
  exact ⟨ret_bool HR.out.symm, rfl⟩
def digc (c : Nat) : Bool := decide (48 ≤ c) && decide (c ≤ 57)
theorem ddigit_any (c : Nat) (hc : c < 256) (w : World) : Calls Tryz.prog 121 #[.int .u8 c] w fun e w' => e = .returned (.bool (digc c)) ∧ w = w' := by
 by_cases h1 : 48 ≤ c
 ·have g1 : (c : Int) ≥ 48 := by omega
  by_cases h2 : c ≤ 57
  ·have g2 : (c : Int) ≤ 57 := by omega
   have HR := hid (show digc c = true by simp [digc]; omega)
   go_enter Tryz.func121, Tryz.ntmps121
   go_wp2
   go_ret
   exact ⟨ret_bool HR.out.symm, rfl⟩
  ·have g2 : ¬ (c : Int) ≤ 57 := by omega
   have HR := hid (show digc c = false by simp [digc]; omega)
   go_enter Tryz.func121, Tryz.ntmps121
   go_wp2
   go_ret
   exact ⟨ret_bool HR.out.symm, rfl⟩
 ·have g1 : ¬ (c : Int) ≥ 48 := by omega
  have HR := hid (show digc c = false by simp [digc]; omega)
  go_enter Tryz.func121, Tryz.ntmps121
  go_wp2
  go_ret
  exact ⟨ret_bool HR.out.symm, rfl⟩
theorem okc_split (c : Nat) : okc c = (smallc c || digc c) := by
 rw [Bool.eq_iff_iff]
 simp [okc, smallc, digc]
 omega
theorem bName_no {s : ByteArray} (h : ¬ bName s) : decide (bName s) = false := decide_eq_false h
set_option maxHeartbeats 1600000 in
theorem disname_any (s : ByteArray) (hs : s.size ≤ 1099511627776) (w : World) : Calls Tryz.prog 93 #[.string s] w fun e w' => e = .returned (.bool (decide (bName s))) ∧ Fr (fun _ => False) w w' := by
 have hsI : (s.size : Int) ≤ 1099511627776 := by omega
 by_cases h1 : s.size < 1
 ·have HR := hid (bName_no (s := s) fun h => by have := h.1; omega)
  generalize decide (bName s) = r at *
  clear hs
  go_enter Tryz.func93, Tryz.ntmps93
  go_wp2_with fail
  go_ret
  exact ⟨ret_bool HR.out.symm, Fr.refl _ _⟩
 by_cases h2 : 32 < s.size
 ·have HR := hid (bName_no (s := s) fun h => by have := h.2.1; omega)
  generalize decide (bName s) = r at *
  clear hs
  go_enter Tryz.func93, Tryz.ntmps93
  go_wp2_with fail
  go_ret
  exact ⟨ret_bool HR.out.symm, Fr.refl _ _⟩
 have h0 : 0 < s.size := by omega
 have hb0 : at0 s 0 = s[0].toNat := by
  have : 0 < s.data.toList.length := by simpa using h0
  simp [at0, List.getD, h0]; rfl
 have HSM := hid (fun w => dsmall_any s[0].toNat s[0].toNat_lt w)
 cases hsm : smallc s[0].toNat
 ·have HR := hid (bName_no (s := s) fun h => by have := h.2.2.1; rw [hb0, hsm] at this; cases this)
  generalize decide (bName s) = r at *
  rw [hsm] at HSM
  clear hs hb0 hsm
  go_enter Tryz.func93, Tryz.ntmps93
  go_wp2_with fail
  refine (HSM.out _).mono ?_
  rintro e w2 ⟨rfl, rfl⟩
  go_wp2_with fail
  go_ret
  exact ⟨ret_bool HR.out.symm, Fr.refl _ _⟩
 have HB0 := hid (show smallc (at0 s 0) = true by rw [hb0, hsm])
 rw [hsm] at HSM
 clear hb0 hsm
 obtain ⟨r, hr⟩ : ∃ r, decide (bName s) = r := ⟨_, rfl⟩
 rw [hr]
 have HRR := hid hr
 clear hr
 go_enter Tryz.func93, Tryz.ntmps93
 go_wp2_with fail
 refine (HSM.out _).mono ?_
 rintro e w2 ⟨rfl, rfl⟩
 go_wp2_with fail
 go_loopw [3] (fun i wr => ∃ k : Nat, k ≤ s.size ∧ i = .int .i64 k ∧ w = wr ∧ Hid (∀ j, j < k → okc (at0 s j) = true)) (fun i _ => s.size - (intOf i).toNat)
 case atStart => exact ⟨0, Nat.zero_le _, rfl, rfl, hid fun j hj => by omega⟩
 case round =>
  obtain ⟨k, hk, rfl, rfl, HA⟩ := hrel
  by_cases hlt : k < s.size
  ·have hlt' : (k : Int) < s.size := by omega
   have hbk : at0 s k = s[k].toNat := by
    have : k < s.data.toList.length := by simpa using hlt
    simp [at0, List.getD, hlt]; rfl
   have HK := hid (dsmall_any s[k].toNat s[k].toNat_lt w)
   have HD := hid (ddigit_any s[k].toNat s[k].toNat_lt w)
   have hsp := okc_split s[k].toNat
   generalize smallc s[k].toNat = sm at *
   generalize digc s[k].toNat = dg at *
   cases sm
   ·cases dg
    ·have HR := hid (show r = false by rw [← HRR.out]; exact bName_no fun h => by have := h.2.2.2 k hlt; rw [hbk, hsp] at this; cases this)
     clear hbk hsp
     go_wp2_with fail
     refine HK.out.mono ?_
     rintro e w2 ⟨rfl, rfl⟩
     go_wp2_with fail
     refine HD.out.mono ?_
     rintro e w2 ⟨rfl, rfl⟩
     go_wp2_with fail
     go_ret
     exact ⟨ret_bool HR.out.symm, Fr.refl _ _⟩
    ·have HOK := hid (show okc (at0 s k) = true by rw [hbk, hsp]; rfl)
     clear hbk hsp
     go_wp2_with fail
     refine HK.out.mono ?_
     rintro e w2 ⟨rfl, rfl⟩
     go_wp2_with fail
     refine HD.out.mono ?_
     rintro e w2 ⟨rfl, rfl⟩
     go_wp2_with fail
     go_roundw
     case rel => exact ⟨k + 1, by omega, by go_num, trivial, hid (all_step HA.out HOK.out)⟩
     case measure => simp [intOf]; omega
   ·have HOK := hid (show okc (at0 s k) = true by rw [hbk, hsp]; rfl)
    clear hbk hsp
    go_wp2_with fail
    refine HK.out.mono ?_
    rintro e w2 ⟨rfl, rfl⟩
    go_wp2_with fail
    go_roundw
    case rel => exact ⟨k + 1, by omega, by go_num, trivial, hid (all_step HA.out HOK.out)⟩
    case measure => simp [intOf]; omega
  ·obtain rfl : k = s.size := by omega
   have HR := hid (show r = true by rw [← HRR.out]; exact decide_eq_true ⟨by omega, by omega, HB0.out, HA.out⟩)
   go_wp2_with fail
   go_ret
   exact ⟨ret_bool HR.out.symm, Fr.refl _ _⟩
set_option maxHeartbeats 800000 in
theorem dholds_any (s : ByteArray) (l : List ByteArray) (hl : l.length ≤ 1099511627776) (v : Value) (w : World) (h : Ss Tv w v l) : Calls Tryz.prog 94 #[v, .string s] w fun e w' => e = .returned (.bool (memB s l)) ∧ w = w' := by
 obtain ⟨a, c, rfl, h1, h2, hk⟩ := h
 have HC := hid hk
 have hlI : (l.length : Int) ≤ 1099511627776 := by omega
 have HM := hid (memB_iff (s := s) (l := l))
 clear hk h1 h2 hl
 generalize memB s l = r at *
 go_enter Tryz.func94, Tryz.ntmps94
 go_wp2_with fail
 go_loopw [5] (fun i wr => ∃ k : Nat, k ≤ l.length ∧ i = .int .i64 k ∧ w = wr ∧ Hid (∀ j, j < k → l.getD j ByteArray.empty ≠ s)) (fun i _ => l.length - (intOf i).toNat)
 case atStart => exact ⟨0, Nat.zero_le _, rfl, rfl, hid fun j hj => by omega⟩
 case round =>
  obtain ⟨k, hk, rfl, rfl, HA⟩ := hrel
  by_cases hlt : k < l.length
  ·obtain ⟨b, o, rfl, -, hc⟩ := HC.out k hlt
   have hlt' : (k : Int) < l.length := by omega
   by_cases he : s = l.getD k ByteArray.empty
   ·have HR := hid (show r = true from HM.out.2 (by rw [he]; simp [List.getD, hlt]))
    have hq := toList_same he.symm
    generalize l.getD k ByteArray.empty = d at *
    clear he
    go_wp2_with fail
    go_ret
    exact ⟨ret_bool HR.out.symm, rfl⟩
   ·generalize hd : l.getD k ByteArray.empty = d at *
    have HNE := hid he
    have HD := hid hd
    have hq := toList_ne (Ne.symm he)
    clear hd he
    go_wp2_with fail
    go_roundw
    case rel => exact ⟨k + 1, by omega, by go_num, trivial, hid (all_step HA.out (by rw [HD.out]; exact fun e => HNE.out e.symm))⟩
    case measure => simp [intOf]; omega
  ·obtain rfl : k = l.length := by omega
   have HR := hid (show r = false from Bool.eq_false_iff.2 fun h => by
    obtain ⟨j, hj, e⟩ := List.getElem_of_mem (HM.out.1 h)
    exact HA.out j hj (by simp [List.getD, hj, e]))
   go_wp2_with fail
   go_ret
   exact ⟨ret_bool HR.out.symm, rfl⟩
set_option maxHeartbeats 800000 in
theorem dright_any (x : V) (hM : x.size ≤ 1099511627776) (D : Nat → Prop) (w : World) (u : Array Value) (h : VIn D w x u) : Calls Tryz.prog 70 #[.agg u] w fun e w' => e = .returned (.bool (decide (x.valid = 0))) ∧ Fr (fun _ => False) w w' := by
 obtain ⟨v, rfl, a, cap, us, rfl, -⟩ := id h.open
 have hf := (Fr.refl (fun _ => False) w).alloc (.cells #[.int .i64 x.k, .int .i64 x.n, .string x.s, .slice a x.l.length cap] 44)
 have HC := hid (rvalid_any x hM D _ _ (h.frame hf fun _ _ => not_false))
 have HF := hid hf; have HG := hid (heap_alloc_new w (.cells #[.int .i64 x.k, .int .i64 x.n, .string x.s, .slice a x.l.length cap] 44))
 have hd : (x.valid == 0) = decide (x.valid = 0) := by
  by_cases h : x.valid = 0
  ·rw [h]; rfl
  ·rw [decide_eq_false h, beq_eq_false_iff_ne]; exact h
 generalize decide (x.valid = 0) = r at *
 generalize x.valid = rv at *
 clear h hM hf
 go_enter Tryz.func70, Tryz.ntmps70
 go_upto_region 1 with fail
 generalize hW : w.alloc (.cells #[.int .i64 x.k, .int .i64 x.n, .string x.s, .slice a x.l.length cap] 44) = W at *
 clear hW
 have d0 : W.cell? ⟨w.heap.size, 0, none⟩ = some (.int .i64 x.k) := by rw [cell_of_row _ _ 0 _ _ _ HG.out]; rfl
 have d1 : W.cell? ⟨w.heap.size, 1, none⟩ = some (.int .i64 x.n) := by rw [cell_of_row _ _ 1 _ _ _ HG.out]; rfl
 have d2 : W.cell? ⟨w.heap.size, 2, none⟩ = some (.string x.s) := by rw [cell_of_row _ _ 2 _ _ _ HG.out]; rfl
 have d3 : W.cell? ⟨w.heap.size, 3, none⟩ = some (.slice a x.l.length cap) := by rw [cell_of_row _ _ 3 _ _ _ HG.out]; rfl
 go_wp2_with fail
 refine HC.out.mono ?_
 rintro e w2 ⟨rfl, hf2⟩
 have HF2 := hid (HF.out.trans' hf2)
 clear hf2
 go_wp2_with fail
 go_ret
 exact ⟨rfl, HF2.out⟩
set_option maxRecDepth 100000 in
set_option maxHeartbeats 1600000 in
theorem dmany_any : ∀ (N : Nat) (l : List Nd), cntL l < N → cntL l ≤ 4611686018427387904 → ∀ (n : Nat), n ≤ 1048576 → ∀ (D : Nat → Prop) (w : World) (v : Value), NL D w l v →
  Calls Tryz.prog 69 #[v, .int .i64 n] w fun e w' => e = .returned (.int .i64 (if cntL l ≤ n then ((n - cntL l : Nat) : Int) else -1)) ∧ Fr (fun _ => False) w w' := by
 intro N
 induction N with
 | zero =>
  intro l hN hM n hn0 D w v h
  omega
 | succ N ih =>
  intro l hN hM n hn0 D w v h
  have hll := len_le_cnt l
  obtain ⟨a, cap, us, rfl, hc, hm, hn, hb, hi⟩ := h
  have hlI : (l.length : Int) ≤ 4611686018427387904 := by omega
  obtain ⟨r, hr⟩ : ∃ r : Int, (if cntL l ≤ n then ((n - cntL l : Nat) : Int) else -1) = r := ⟨_, rfl⟩
  rw [hr]
  have HB := hid hb; have HI := hid hi; have HM := hid hM; have HN := hid hN; have HR := hid hr
  clear hb hi hM hN hn hll hc hm hr
  go_enter Tryz.func69, Tryz.ntmps69
  go_wp2
  go_loopw [1, 5] (fun m i wr => ∃ k q : Nat, k ≤ l.length ∧ i = .int .i64 k ∧ m = .int .i64 q ∧ cntL (l.take k) + q = n ∧ Fr (fun _ => False) w wr) (fun _ i _ => l.length - (intOf i).toNat)
  case atStart => exact ⟨0, n, Nat.zero_le _, rfl, rfl, by simp [cntL], Fr.refl _ _⟩
  case round =>
   obtain ⟨k, q, hk, rfl, rfl, hb4, hf⟩ := hrel
   by_cases hlt : k < l.length
   ·obtain ⟨b, o, y, va, c1, a', c', rfl, -, hy, hv, e0, e1, e2, e3, e4, e5, e6, e7⟩ := NL.elem HB.out HI.out k hlt
    have hlt' : (k : Int) < l.length := by omega
    replace e7 := hf.cell e7 not_false
    have t1 := cntL_take l k y hy
    have t2 := cntL_mem hy
    have t3 := cntL_take_le l (k + 1)
    have t4 := Nd.cnt_eq y
    have hqI : (q : Int) ≤ 1048576 := by omega
    obtain ⟨va2, vl, he, -, hyl⟩ := hv.open
    obtain rfl : vl = .slice a' y.l.length c' := by simpa using (congrArg (fun q => q.getD 7 undef) he).symm
    have HF := hid hf
    by_cases h5 : q < 1
    ·have HX := hid (show r = -1 by rw [← HR.out, if_neg (by omega)])
     have h5I : (q : Int) < 1 := by omega
     clear t1 t2 t3 t4 hv hyl he hf hy hb4 e0 e1 e2 e3 e4 e5 e6
     go_wp2
     go_ret
     exact ⟨ret_int HX.out.symm, HF.out⟩
    ·have h5I : ¬ (q : Int) < 1 := by omega
     obtain ⟨q1, hq1⟩ : ∃ q1 : Nat, q = q1 + 1 := ⟨q - 1, by omega⟩
     have hq1I : (q : Int) - 1 = q1 := by omega
     have hcl := ih y.l (by have := HN.out; omega) (by have := HM.out; omega) q1 (by omega) D wr _ (hyl.frame hf fun _ _ => not_false)
     have HCL := hid hcl
     by_cases h6 : cntL y.l ≤ q1
     ·rw [if_pos h6] at HCL
      obtain ⟨q2, hq2⟩ : ∃ q2, q1 - cntL y.l = q2 := ⟨_, rfl⟩
      rw [hq2] at HCL
      have HB5 := hid (show cntL (l.take (k + 1)) + q2 = n by omega)
      clear t1 t2 t3 t4 hv hyl he hf hy hb4 e0 e1 e2 e3 e4 e5 e6 hcl h6 hq2 hq1
      go_wp2_with fail
      refine HCL.out.mono ?_
      rintro e w2 ⟨rfl, hf2⟩
      have HF2 := hid (HF.out.trans' hf2)
      clear hf2
      go_wp2_with fail
      go_roundw
      case rel => exact ⟨k + 1, q2, by omega, by go_num, rfl, HB5.out, HF2.out⟩
      case measure => simp [intOf]; omega
     ·rw [if_neg h6] at HCL
      have HX := hid (show r = -1 by rw [← HR.out, if_neg (by omega)])
      clear t1 t2 t3 t4 hv hyl he hf hy hb4 e0 e1 e2 e3 e4 e5 e6 hcl h6 hq1
      go_wp2_with fail
      refine HCL.out.mono ?_
      rintro e w2 ⟨rfl, hf2⟩
      have HF2 := hid (HF.out.trans' hf2)
      clear hf2
      go_wp2_with fail
      go_ret
      exact ⟨ret_int HX.out.symm, HF2.out⟩
   ·obtain rfl : k = l.length := by omega
    rw [List.take_length] at hb4
    have HX := hid (show r = q by rw [← HR.out, if_pos (by omega)]; omega)
    clear hb4
    go_wp2
    go_ret
    exact ⟨ret_int HX.out.symm, hf⟩
theorem dtoomany_any (l : List Nd) (hM : cntL l ≤ 4611686018427387904) (D : Nat → Prop) (w : World) (v : Value) (h : NL D w l v) :
  Calls Tryz.prog 40 #[v] w fun e w' => e = .returned (.bool (decide (4096 < cntL l))) ∧ Fr (fun _ => False) w w' := by
 have HC := hid (dmany_any (cntL l + 1) l (by omega) hM 4096 (by decide) D w v h)
 obtain ⟨a, cap, us, rfl, -⟩ := h
 by_cases hc : cntL l ≤ 4096
 ·rw [if_pos hc] at HC
  have HR := hid (show decide (4096 < cntL l) = false from decide_eq_false (by omega))
  generalize decide (4096 < cntL l) = r at *
  obtain ⟨q, hq⟩ : ∃ q, 4096 - cntL l = q := ⟨_, rfl⟩
  rw [hq] at HC
  have hq0 : ¬ (q : Int) < 0 := by omega
  clear hq hc hM
  go_enter Tryz.func40, Tryz.ntmps40
  go_wp2_with fail
  refine HC.out.mono ?_
  rintro e w2 ⟨rfl, hf2⟩
  go_wp2_with fail
  go_ret
  exact ⟨ret_bool HR.out.symm, hf2⟩
 ·rw [if_neg hc] at HC
  have HR := hid (show decide (4096 < cntL l) = true from decide_eq_true (by omega))
  generalize decide (4096 < cntL l) = r at *
  clear hc hM
  go_enter Tryz.func40, Tryz.ntmps40
  go_wp2_with fail
  refine HC.out.mono ?_
  rintro e w2 ⟨rfl, hf2⟩
  go_wp2_with fail
  go_ret
  exact ⟨ret_bool HR.out.symm, hf2⟩
set_option maxRecDepth 100000 in
set_option maxHeartbeats 1600000 in
theorem ddeep_any : ∀ (N : Nat) (l : List Nd), cntL l < N → cntL l ≤ 4611686018427387904 → ∀ (D : Nat → Prop) (w : World) (v : Value), NL D w l v →
  Calls Tryz.prog 41 #[v] w fun e w' => e = .returned (.int .i64 (depL l)) ∧ Fr (fun _ => False) w w' := by
 intro N
 induction N with
 | zero =>
  intro l hN hM D w v h
  omega
 | succ N ih =>
  intro l hN hM D w v h
  have hll := len_le_cnt l
  obtain ⟨a, cap, us, rfl, hc, hm, hn, hb, hi⟩ := h
  have hlI : (l.length : Int) ≤ 4611686018427387904 := by omega
  have HB := hid hb; have HI := hid hi; have HM := hid hM; have HN := hid hN
  clear hb hi hM hN hn hll hc hm
  go_enter Tryz.func41, Tryz.ntmps41
  go_wp2
  go_loopw [3, 4] (fun n i wr => ∃ k : Nat, k ≤ l.length ∧ i = .int .i64 k ∧ n = .int .i64 (depL (l.take k)) ∧ Fr (fun _ => False) w wr) (fun _ i _ => l.length - (intOf i).toNat)
  case atStart => exact ⟨0, Nat.zero_le _, rfl, by simp [depL], Fr.refl _ _⟩
  case round =>
   obtain ⟨k, hk, rfl, rfl, hf⟩ := hrel
   by_cases hlt : k < l.length
   ·obtain ⟨b, o, y, va, c1, a', c', rfl, -, hy, hv, e0, e1, e2, e3, e4, e5, e6, e7⟩ := NL.elem HB.out HI.out k hlt
    have hlt' : (k : Int) < l.length := by omega
    replace e7 := hf.cell e7 not_false
    have t1 := cntL_take l k y hy
    have t2 := cntL_mem hy
    have t3 := cntL_take_le l (k + 1)
    have t4 := Nd.cnt_eq y
    obtain ⟨va2, vl, he, -, hyl⟩ := hv.open
    obtain rfl : vl = .slice a' y.l.length c' := by simpa using (congrArg (fun q => q.getD 7 undef) he).symm
    have hcl := ih y.l (by have := HN.out; omega) (by have := HM.out; omega) D wr _ (hyl.frame hf fun _ _ => not_false)
    have d1 := depL_take l k y hy
    have d2 := Nd.dep_eq y
    have d3 := depL_le' y.l
    have d4 := depL_le' (l.take k)
    have d5 := cntL_take_le l k
    have hdy : (depL y.l : Int) ≤ 4611686018427387904 := by have := HM.out; omega
    have hdk : (depL (l.take k) : Int) ≤ 4611686018427387904 := by have := HM.out; omega
    have hmx : (depL (l.take (k + 1)) : Int) = max (depL (l.take k) : Int) (1 + depL y.l) := by omega
    have HMX := hid hmx; have HF := hid hf; have HC := hid hcl
    clear d1 d2 d3 d4 d5 hmx e0 e1 e2 e3 e4 e5 e6
    clear t1 t2 t3 t4 hv hyl he hcl hf hy
    go_wp2_with fail
    refine HC.out.mono ?_
    rintro e w2 ⟨rfl, hf2⟩
    have HF2 := hid (HF.out.trans' hf2); clear hf2
    generalize depL (l.take k) = p at *
    generalize depL y.l = q at *
    by_cases hpq : (p : Int) ≤ 1 + q
    ·go_wp2
     all_goals
      go_roundw
      case rel => exact ⟨k + 1, by omega, by go_num, int_eq (by rw [HMX.out]; omega), HF2.out⟩
      case measure => simp [intOf]; omega
    ·go_wp2
     all_goals
      go_roundw
      case rel => exact ⟨k + 1, by omega, by go_num, int_eq (by rw [HMX.out]; omega), HF2.out⟩
      case measure => simp [intOf]; omega
   ·obtain rfl : k = l.length := by omega
    go_wp2
    go_ret
    exact ⟨ret_int (by rw [List.take_length]), hf⟩
end
section
open Go.RowKit
theorem wpO_skip {P : Program} {l : List Oper} {tk : List Nat} {Q : Exit → Act → World → Prop} {S : World → Prop} {i : Nat} {r : List (Nat × Nat)} {a : Act} {w : World} {o : Oper} (hi : nth l i = some o) (hg : Region.wanted o (yielded l.toArray a.tmps) = false)
  (hS : S w) (h : wpO P tk l.toArray Q r S (a.put o.dst undef) w) : wpO P tk l.toArray Q ((i, 1) :: r) S a w := by
 unfold wpO wpOp
 simp only [(nth_spec l i).trans hi, hg]
 exact ⟨fun _ => hS, h⟩
theorem bytes0' : (⟨#[]⟩ : ByteArray).toList.isEmpty = true := by rw [ByteArray.toList_eq]; rfl
set_option maxRecDepth 100000 in
theorem dkeys_any (w : World) : Calls Tryz.prog 95 #[] w fun e w' => ∃ L v, e = .returned v ∧ Ss Tv w' v L ∧ (∀ s, s ∈ L ↔ s ∈ keysL) ∧ L.length ≤ 19 ∧ Fr (fun _ => False) w w' := by
 have hf := (Fr.refl (fun _ => False) w).alloc (.cells #[.string ⟨#[105, 102]⟩, .string ⟨#[101, 108, 115, 101, 105, 102]⟩, .string ⟨#[101, 108, 115, 101]⟩, .string ⟨#[101, 110, 100, 105, 102]⟩, .string ⟨#[102, 111, 114]⟩, .string ⟨#[105, 110]⟩, .string ⟨#[101, 110, 100, 102, 111, 114]⟩, .string ⟨#[119, 104, 105, 108, 101]⟩, .string ⟨#[101, 110, 100, 119, 104, 105, 108, 101]⟩, .string ⟨#[98, 114, 101, 97, 107]⟩, .string ⟨#[99, 111, 110, 116, 105, 110, 117, 101]⟩, .string ⟨#[114, 101, 116, 117, 114, 110]⟩, .string ⟨#[102, 111, 114, 107]⟩, .string ⟨#[101, 110, 100, 102, 111, 114, 107]⟩, .string ⟨#[116, 114, 121]⟩, .string ⟨#[101, 120, 99, 101, 112, 116]⟩, .string ⟨#[102, 105, 110, 97, 108, 108, 121]⟩, .string ⟨#[101, 110, 100, 116, 114, 121]⟩, .string ⟨#[97, 110, 121]⟩] 9)
 have hs := Ss.lit (D := Tv) (l := keysL) (heap_alloc_new w (.cells #[.string ⟨#[105, 102]⟩, .string ⟨#[101, 108, 115, 101, 105, 102]⟩, .string ⟨#[101, 108, 115, 101]⟩, .string ⟨#[101, 110, 100, 105, 102]⟩, .string ⟨#[102, 111, 114]⟩, .string ⟨#[105, 110]⟩, .string ⟨#[101, 110, 100, 102, 111, 114]⟩, .string ⟨#[119, 104, 105, 108, 101]⟩, .string ⟨#[101, 110, 100, 119, 104, 105, 108, 101]⟩, .string ⟨#[98, 114, 101, 97, 107]⟩, .string ⟨#[99, 111, 110, 116, 105, 110, 117, 101]⟩, .string ⟨#[114, 101, 116, 117, 114, 110]⟩, .string ⟨#[102, 111, 114, 107]⟩, .string ⟨#[101, 110, 100, 102, 111, 114, 107]⟩, .string ⟨#[116, 114, 121]⟩, .string ⟨#[101, 120, 99, 101, 112, 116]⟩, .string ⟨#[102, 105, 110, 97, 108, 108, 121]⟩, .string ⟨#[101, 110, 100, 116, 114, 121]⟩, .string ⟨#[97, 110, 121]⟩] 9)) rfl trivial (by decide)
 have HC := hid (rising_any keysL (by decide) (fun s hs => by
  have : ∀ s ∈ keysL, s.size ≤ 1099511627776 := by decide
  exact this s hs) Tv _ _ hs)
 have HF := hid hf
 clear hf hs
 go_enter Tryz.func95, Tryz.ntmps95
 go_wp2_with fail
 refine HC.out.mono ?_
 rintro e w2 ⟨L, v', rfl, ho, hm, hl, hf2⟩
 have HF2 := hid (HF.out.trans' hf2); have HS := hid ((Ss.own ho).mono fun _ _ _ => trivial); have HM := hid hm; have HL := hid hl
 clear ho hm hl hf2
 go_wp2_with fail
 go_ret
 exact ⟨L, _, rfl, HS.out, HM.out, HL.out, HF2.out⟩
def dNamed (op : Int) (s : ByteArray) : Int :=
 if op = 2 ∨ op = 24 ∨ op = 42 ∨ op = 43 then (if pName s then 0 else 1) else if op = 50 then (if s.toList.isEmpty = false ∧ pName s = false then 1 else 0) else if s.toList.isEmpty = false then 2 else 0
theorem memB_same {s : ByteArray} {L M : List ByteArray} (h : ∀ s, s ∈ L ↔ s ∈ M) : memB s L = memB s M := by
 rw [Bool.eq_iff_iff, memB_iff, memB_iff]
 exact h s
set_option maxRecDepth 100000 in
set_option maxHeartbeats 800000 in
theorem dnamed_any (op ln vk vn : Int) (s vs : ByteArray) (va la : Value) (hs : s.size ≤ 1099511627776) (w : World) : Calls Tryz.prog 71 #[.agg #[.int .i64 op, .int .i64 ln, .string s, .int .i64 vk, .int .i64 vn, .string vs, va, la]] w fun e w' => e = .returned (.int .i64 (dNamed op s)) ∧ Fr (fun _ => False) w w' := by
 have HN := hid (fun w => disname_any s hs w)
 have HK := hid dkeys_any
 have HH := hid (fun (L : List ByteArray) (v : Value) (w : World) (hl : L.length ≤ 19) (h : Ss Tv w v L) => dholds_any s L (by omega) v w h)
 have HPN := hid (show pName s = (decide (bName s) && !memB s keysL) from rfl)
 have hf0 := (Fr.refl (fun _ => False) w).alloc (.cells #[.int .i64 op, .int .i64 ln, .string s, .int .i64 vk, .int .i64 vn, .string vs, va, la] 75)
 have hg0 := heap_alloc_new w (.cells #[.int .i64 op, .int .i64 ln, .string s, .int .i64 vk, .int .i64 vn, .string vs, va, la] 75)
 have HF0 := hid hf0
 have HSE := hid (rfl : s.toList.isEmpty = s.toList.isEmpty)
 clear hs hf0
 have hcase : (op = 2 ∨ op = 24 ∨ op = 42 ∨ op = 43) ∨ op = 50 ∨ ¬ (op = 2 ∨ op = 24 ∨ op = 42 ∨ op = 43 ∨ op = 50) := by omega
 rcases hcase with hop | hop | hop
 ·have HD := hid (show dNamed op s = if pName s then 0 else 1 from if_pos hop)
  generalize hdn : dNamed op s = dn at *
  clear hdn
  generalize decide (bName s) = bn at *
  generalize hpn : pName s = pn at *
  clear hpn
  rcases hop with rfl | rfl | rfl | rfl
  all_goals
   go_enter Tryz.func71, Tryz.ntmps71
   go_upto_region 6 with fail
   generalize hW0 : w.alloc (.cells #[.int .i64 _, .int .i64 ln, .string s, .int .i64 vk, .int .i64 vn, .string vs, va, la] 75) = W0 at *
   have d2 : W0.cell? ⟨w.heap.size, 2, none⟩ = some (.string s) := by rw [cell_of_row _ _ 2 _ _ _ hg0]; rfl
   clear hW0 hg0
   refine wp_region_ord [(0, 0), (1, 0), (2, 1), (3, 0), (4, 0), (6, 0), (7, 0), (5, 1), (8, 1), (9, 0)] (fun w' => w'.cell? ⟨w.heap.size, 2, none⟩ = some (.string s)) (by kernel_rfl) (by kernel_rfl) (by kernel_rfl) rfl (fun _ _ d _ _ h => by cases d <;> exact h) d2 ?_
   iterate 2 (refine wpO_take ?_ rfl (by kernel_rfl) ?_ ?_; rotate_left; (· intro w' hS; go_simp; try with_reducible rfl); try simp only [Act.put, List.setIfInBounds_toArray, List.set_cons_zero, List.set_cons_succ])
   refine wpO_run rfl (by kernel_rfl) (fun K hK => ?_); go_simp
   refine (HN.out W0.drew).mono ?_
   rintro e w2 ⟨rfl, hf2⟩
   have d3 := hf2.cell (show W0.drew.cell? _ = _ from d2) not_false
   have HF2 := hid (HF0.out.drew.trans' hf2)
   refine hK _ _ (fun _ => d3) ?_
   clear hK K hf2
   try simp only [Act.put, List.setIfInBounds_toArray, List.set_cons_zero, List.set_cons_succ]
   cases bn
   ·have HX := hid (show dn = 1 by rw [HD.out, HPN.out]; rfl)
    iterate 2 (refine wpO_take ?_ rfl (by kernel_rfl) ?_ ?_; rotate_left; (· intro w' hS; go_simp; try with_reducible rfl); try simp only [Act.put, List.setIfInBounds_toArray, List.set_cons_zero, List.set_cons_succ])
    iterate 2 (refine wpO_pass rfl (by kernel_rfl) ?_; try simp only [Act.put, List.setIfInBounds_toArray, List.set_cons_zero, List.set_cons_succ])
    (refine wpO_skip rfl (by kernel_rfl) d3 ?_; try simp only [Act.put, List.setIfInBounds_toArray, List.set_cons_zero, List.set_cons_succ])
    (refine wpO_skip rfl (by kernel_rfl) d3 ?_; try simp only [Act.put, List.setIfInBounds_toArray, List.set_cons_zero, List.set_cons_succ])
    (refine wpO_take ?_ rfl (by kernel_rfl) ?_ ?_; rotate_left; (· intro w' hS; go_simp; try with_reducible rfl); try simp only [Act.put, List.setIfInBounds_toArray, List.set_cons_zero, List.set_cons_succ])
    refine wpO_end ?_
    go_wp2_with fail
    go_ret
    exact ⟨ret_int HX.out.symm, HF2.out⟩
   ·iterate 4 (refine wpO_take ?_ rfl (by kernel_rfl) ?_ ?_; rotate_left; (· intro w' hS; go_simp; try with_reducible rfl); try simp only [Act.put, List.setIfInBounds_toArray, List.set_cons_zero, List.set_cons_succ])
    refine wpO_run rfl (by kernel_rfl) (fun K hK => ?_); go_simp
    refine (HK.out w2).mono ?_
    rintro e w3 ⟨L, v3, rfl, hs3, hm3, hl3, hf3⟩
    have d4 := hf3.cell d3 not_false
    have HH3 := hid (HH.out L v3 w3 hl3 hs3)
    have HMS := hid (memB_same (s := s) hm3)
    have HF3 := hid (HF2.out.trans' hf3)
    obtain ⟨a3, c3, rfl, -⟩ := hs3
    clear hm3 hl3 hf3
    refine hK _ _ (fun _ => d4) ?_
    clear hK K
    try simp only [Act.put, List.setIfInBounds_toArray, List.set_cons_zero, List.set_cons_succ]
    refine wpO_run rfl (by kernel_rfl) (fun K hK => ?_); go_simp
    refine HH3.out.mono ?_
    rintro e w4 ⟨rfl, rfl⟩
    refine hK _ _ (fun _ => d4) ?_
    clear hK K
    try simp only [Act.put, List.setIfInBounds_toArray, List.set_cons_zero, List.set_cons_succ]
    have HX := hid (show dn = if memB s L then 1 else 0 by rw [HD.out, HPN.out, ← HMS.out]; cases memB s L <;> rfl)
    generalize memB s L = mb at *
    (refine wpO_take ?_ rfl (by kernel_rfl) ?_ ?_; rotate_left; (· intro w' hS; go_simp; try with_reducible rfl); try simp only [Act.put, List.setIfInBounds_toArray, List.set_cons_zero, List.set_cons_succ])
    refine wpO_end ?_
    cases mb
    ·go_wp2_with fail
     go_ret
     exact ⟨ret_int HX.out.symm, HF3.out⟩
    ·go_wp2_with fail
     go_ret
     exact ⟨ret_int HX.out.symm, HF3.out⟩
 ·subst hop
  have HD := hid (show dNamed 50 s = if s.toList.isEmpty = false ∧ pName s = false then 1 else 0 from rfl)
  generalize hdn : dNamed 50 s = dn at *
  clear hdn
  generalize decide (bName s) = bn at *
  generalize hpn : pName s = pn at *
  clear hpn
  obtain ⟨se, hse⟩ : ∃ se, s.toList.isEmpty = se := ⟨_, rfl⟩
  rw [hse] at HD
  go_enter Tryz.func71, Tryz.ntmps71
  go_upto_region 10 with fail
  generalize hW0 : w.alloc (.cells #[.int .i64 50, .int .i64 ln, .string s, .int .i64 vk, .int .i64 vn, .string vs, va, la] 75) = W0 at *
  have d2 : W0.cell? ⟨w.heap.size, 2, none⟩ = some (.string s) := by rw [cell_of_row _ _ 2 _ _ _ hg0]; rfl
  clear hW0 hg0
  cases se
  ·have hne : (s.toList != (⟨#[]⟩ : ByteArray).toList) = true := by
    rw [bne_iff_ne]
    intro h
    rw [h, bytes0'] at hse
    cases hse
   refine wp_region_ord [(0, 0), (1, 0), (2, 0), (3, 0), (4, 0), (5, 0), (6, 1), (7, 0), (8, 0), (10, 0), (11, 0), (9, 1), (12, 1), (13, 0), (14, 0)] (fun w' => w'.cell? ⟨w.heap.size, 2, none⟩ = some (.string s)) (by kernel_rfl) (by kernel_rfl) (by kernel_rfl) rfl (fun _ _ d _ _ h => by cases d <;> exact h) d2 ?_
   iterate 6 (refine wpO_take ?_ rfl (by kernel_rfl) ?_ ?_; rotate_left; (· intro w' hS; go_simp; try with_reducible rfl); try simp only [Act.put, List.setIfInBounds_toArray, List.set_cons_zero, List.set_cons_succ])
   refine wpO_run rfl (by kernel_rfl) (fun K hK => ?_); go_simp
   refine (HN.out W0.drew).mono ?_
   rintro e w2 ⟨rfl, hf2⟩
   have d3 := hf2.cell (show W0.drew.cell? _ = _ from d2) not_false
   have HF2 := hid (HF0.out.drew.trans' hf2)
   refine hK _ _ (fun _ => d3) ?_
   clear hK K hf2
   try simp only [Act.put, List.setIfInBounds_toArray, List.set_cons_zero, List.set_cons_succ]
   cases bn
   ·have HX := hid (show dn = 1 by rw [HD.out, HPN.out]; rfl)
    iterate 2 (refine wpO_take ?_ rfl (by kernel_rfl) ?_ ?_; rotate_left; (· intro w' hS; go_simp; try with_reducible rfl); try simp only [Act.put, List.setIfInBounds_toArray, List.set_cons_zero, List.set_cons_succ])
    iterate 2 (refine wpO_pass rfl (by kernel_rfl) ?_; try simp only [Act.put, List.setIfInBounds_toArray, List.set_cons_zero, List.set_cons_succ])
    (refine wpO_skip rfl (by kernel_rfl) d3 ?_; try simp only [Act.put, List.setIfInBounds_toArray, List.set_cons_zero, List.set_cons_succ])
    (refine wpO_skip rfl (by kernel_rfl) d3 ?_; try simp only [Act.put, List.setIfInBounds_toArray, List.set_cons_zero, List.set_cons_succ])
    iterate 2 (refine wpO_take ?_ rfl (by kernel_rfl) ?_ ?_; rotate_left; (· intro w' hS; go_simp; try with_reducible rfl); try simp only [Act.put, List.setIfInBounds_toArray, List.set_cons_zero, List.set_cons_succ])
    refine wpO_end ?_
    go_wp2_with fail
    go_ret
    exact ⟨ret_int HX.out.symm, HF2.out⟩
   ·iterate 4 (refine wpO_take ?_ rfl (by kernel_rfl) ?_ ?_; rotate_left; (· intro w' hS; go_simp; try with_reducible rfl); try simp only [Act.put, List.setIfInBounds_toArray, List.set_cons_zero, List.set_cons_succ])
    refine wpO_run rfl (by kernel_rfl) (fun K hK => ?_); go_simp
    refine (HK.out w2).mono ?_
    rintro e w3 ⟨L, v3, rfl, hs3, hm3, hl3, hf3⟩
    have d4 := hf3.cell d3 not_false
    have HH3 := hid (HH.out L v3 w3 hl3 hs3)
    have HMS := hid (memB_same (s := s) hm3)
    have HF3 := hid (HF2.out.trans' hf3)
    obtain ⟨a3, c3, rfl, -⟩ := hs3
    clear hm3 hl3 hf3
    refine hK _ _ (fun _ => d4) ?_
    clear hK K
    try simp only [Act.put, List.setIfInBounds_toArray, List.set_cons_zero, List.set_cons_succ]
    refine wpO_run rfl (by kernel_rfl) (fun K hK => ?_); go_simp
    refine HH3.out.mono ?_
    rintro e w4 ⟨rfl, rfl⟩
    refine hK _ _ (fun _ => d4) ?_
    clear hK K
    try simp only [Act.put, List.setIfInBounds_toArray, List.set_cons_zero, List.set_cons_succ]
    have HX := hid (show dn = if memB s L then 1 else 0 by rw [HD.out, HPN.out, ← HMS.out]; cases memB s L <;> rfl)
    generalize memB s L = mb at *
    iterate 2 (refine wpO_take ?_ rfl (by kernel_rfl) ?_ ?_; rotate_left; (· intro w' hS; go_simp; try with_reducible rfl); try simp only [Act.put, List.setIfInBounds_toArray, List.set_cons_zero, List.set_cons_succ])
    refine wpO_end ?_
    cases mb
    ·go_wp2_with fail
     go_ret
     exact ⟨ret_int HX.out.symm, HF3.out⟩
    ·go_wp2_with fail
     go_ret
     exact ⟨ret_int HX.out.symm, HF3.out⟩
  ·have hne : (s.toList != (⟨#[]⟩ : ByteArray).toList) = false := by
    rw [bne_eq_false_iff_eq]
    have h1 := List.isEmpty_iff.1 hse
    have h2 := List.isEmpty_iff.1 bytes0'
    rw [h1, h2]
   have HX := hid (show dn = 0 by rw [HD.out]; rfl)
   go_quiet (fail)
   go_wp2_with fail
   go_ret
   exact ⟨ret_int HX.out.symm, HF0.out.drewN _⟩
 ·have HD := hid (show dNamed op s = if s.toList.isEmpty = false then 2 else 0 by unfold dNamed; rw [if_neg (by omega), if_neg (by omega)])
  have q2 : (op == 2) = false := by rw [beq_eq_false_iff_ne]; omega
  have q24 : (op == 24) = false := by rw [beq_eq_false_iff_ne]; omega
  have q42 : (op == 42) = false := by rw [beq_eq_false_iff_ne]; omega
  have q43 : (op == 43) = false := by rw [beq_eq_false_iff_ne]; omega
  have q50 : (op == 50) = false := by rw [beq_eq_false_iff_ne]; omega
  generalize hdn : dNamed op s = dn at *
  clear hdn hop
  obtain ⟨se, hse⟩ : ∃ se, s.toList.isEmpty = se := ⟨_, rfl⟩
  rw [hse] at HD
  go_enter Tryz.func71, Tryz.ntmps71
  go_upto_region 13 with fail
  generalize hW0 : w.alloc (.cells #[.int .i64 op, .int .i64 ln, .string s, .int .i64 vk, .int .i64 vn, .string vs, va, la] 75) = W0 at *
  have d2 : W0.cell? ⟨w.heap.size, 2, none⟩ = some (.string s) := by rw [cell_of_row _ _ 2 _ _ _ hg0]; rfl
  clear hW0 hg0
  cases se
  ·have hne : (s.toList != (⟨#[]⟩ : ByteArray).toList) = true := by
    rw [bne_iff_ne]
    intro h
    rw [h, bytes0'] at hse
    cases hse
   have HX := hid (show dn = 2 by rw [HD.out]; rfl)
   go_wp2_with fail
   go_ret
   exact ⟨ret_int HX.out.symm, HF0.out⟩
  ·have hne : (s.toList != (⟨#[]⟩ : ByteArray).toList) = false := by
    rw [bne_eq_false_iff_eq]
    have h1 := List.isEmpty_iff.1 hse
    have h2 := List.isEmpty_iff.1 bytes0'
    rw [h1, h2]
   have HX := hid (show dn = 0 by rw [HD.out]; rfl)
   go_wp2_with fail
   go_ret
   exact ⟨ret_int HX.out.symm, HF0.out⟩
end
section
open Go.RowKit
theorem rW_plain {role op : Int} (i : Nat) (r : Int) (h5 : role ≠ 5) (h20 : op ≠ 20) (h26 : op ≠ 26) : rW role op i r = r := by
 unfold rW
 rw [if_neg h5, if_neg (fun h => h20 h.2.1), if_neg (fun h => h26 h.2)]
theorem getD_rep (m i : Nat) (a : Int) (h : i < m) : (List.replicate m a).getD i 0 = a := by
 simp [List.getD, List.getElem?_replicate, h]
theorem ifK_getD (n i : Nat) (h : i < n) : (ifK n).getD i 0 = if i % 2 = 0 then 0 else 6 := by
 simp [ifK, List.getD, List.getElem?_map, List.getElem?_range h]
set_option maxHeartbeats 1600000 in
theorem dPlace_eq (op role : Int) (n i : Nat) (h0 : 0 ≤ role) (h8 : role ≤ 8) (hst : pStands op role = true) (hc : pCounts op n = true) (hi : i < n) : dPlace op n (plc role) i = plc (rW role op i ((pRoles op n).getD i 0)) := by
 have h5 : role = 5 → op = 25 := fun e => by subst e; simpa [pStands] using hst
 have hl : op = 3 ∨ op = 4 ∨ op = 40 ∨ (5 ≤ op ∧ op ≤ 18) ∨ op = 22 ∨ op = 19 ∨ op = 21 ∨ op = 47 ∨ op = 1 ∨ op = 2 ∨ op = 45 ∨ op = 46 ∨ op = 26 ∨ op = 20 ∨ op = 43 ∨ op = 23 ∨ op = 28 ∨ op = 41 ∨ op = 49 ∨ op = 24 ∨ op = 25 ∨ op = 52 ∨ op = 27 ∨ op = 42 ∨ op = 44 ∨ op = 48 ∨ op = 50 ∨ op = 51 ∨ op = 29 := by
  unfold pCounts at hc
  repeat' split at hc
  all_goals first | omega | cases hc
 have e25 : ∀ {k : Int}, op = k → k ≠ 25 → role ≠ 5 := fun e hk h => hk (e ▸ h5 h)
 rcases hl with rfl | rfl | rfl | hop | rfl | rfl | rfl | rfl | rfl | rfl | rfl | rfl | rfl | rfl | rfl | rfl | rfl | rfl | rfl | rfl | rfl | rfl | rfl | rfl | rfl | rfl | rfl | rfl | rfl
 ·obtain rfl : n = 1 := by simpa [pCounts] using hc
  rw [rW_plain _ _ (e25 rfl (by decide)) (by decide) (by decide)]
  obtain rfl : i = 0 := by omega
  rfl
 ·obtain rfl : n = 1 := by simpa [pCounts] using hc
  rw [rW_plain _ _ (e25 rfl (by decide)) (by decide) (by decide)]
  obtain rfl : i = 0 := by omega
  rfl
 ·obtain rfl : n = 1 := by simpa [pCounts] using hc
  rw [rW_plain _ _ (e25 rfl (by decide)) (by decide) (by decide)]
  obtain rfl : i = 0 := by omega
  rfl
 ·have hn : n = 2 := by
   unfold pCounts at hc
   rw [if_neg (by omega), if_neg (by omega), if_pos (by omega)] at hc
   simpa using hc
  subst hn
  have h5' : role ≠ 5 := fun h => by have := h5 h; omega
  rw [rW_plain _ _ h5' (by omega) (by omega)]
  have hr : pRoles op 2 = List.replicate 2 0 := by unfold pRoles; rw [if_neg (by omega), if_neg (by omega), if_pos (by omega)]
  rw [hr, getD_rep 2 i 0 hi]
  unfold dPlace
  rw [if_neg (by omega), if_neg (by omega), if_neg (by omega), if_neg (by omega), if_neg (by omega), if_neg (by omega), if_neg (by omega), if_neg (by omega), if_neg (by omega), if_neg (by omega), if_neg (by omega), if_neg (by omega), if_neg (by omega), if_neg (by omega)]
  rfl
 ·obtain rfl : n = 2 := by simpa [pCounts] using hc
  rw [rW_plain _ _ (e25 rfl (by decide)) (by decide) (by decide)]
  obtain rfl | rfl : i = 0 ∨ i = 1 := by omega
  all_goals rfl
 ·obtain rfl : n = 3 := by simpa [pCounts] using hc
  rw [rW_plain _ _ (e25 rfl (by decide)) (by decide) (by decide)]
  obtain rfl | rfl | rfl : i = 0 ∨ i = 1 ∨ i = 2 := by omega
  all_goals rfl
 ·obtain rfl : n = 3 := by simpa [pCounts] using hc
  rw [rW_plain _ _ (e25 rfl (by decide)) (by decide) (by decide)]
  obtain rfl | rfl | rfl : i = 0 ∨ i = 1 ∨ i = 2 := by omega
  all_goals rfl
 ·have hn : n ≤ 1 := by simpa [pCounts] using hc
  obtain rfl : n = 1 := by omega
  rw [rW_plain _ _ (e25 rfl (by decide)) (by decide) (by decide)]
  obtain rfl : i = 0 := by omega
  rfl
 ·obtain rfl : n = 0 := by simpa [pCounts] using hc
  omega
 ·obtain rfl : n = 0 := by simpa [pCounts] using hc
  omega
 ·obtain rfl : n = 0 := by simpa [pCounts] using hc
  omega
 ·obtain rfl : n = 0 := by simpa [pCounts] using hc
  omega
 ·obtain rfl : n = 1 := by simpa [pCounts] using hc
  obtain rfl : i = 0 := by omega
  have hr : role = 0 ∨ role = 1 ∨ role = 2 ∨ role = 3 ∨ role = 4 ∨ role = 6 ∨ role = 7 ∨ role = 8 := by have := e25 rfl (by decide); omega
  rcases hr with rfl | rfl | rfl | rfl | rfl | rfl | rfl | rfl
  all_goals rfl
 ·obtain rfl : n = 2 := by simpa [pCounts] using hc
  have hr : role = 0 ∨ role = 1 ∨ role = 2 ∨ role = 3 ∨ role = 4 ∨ role = 6 ∨ role = 7 ∨ role = 8 := by have := e25 rfl (by decide); omega
  obtain rfl | rfl : i = 0 ∨ i = 1 := by omega
  all_goals
   rcases hr with rfl | rfl | rfl | rfl | rfl | rfl | rfl | rfl
   all_goals rfl
 ·obtain rfl : n = 3 := by simpa [pCounts] using hc
  rw [rW_plain _ _ (e25 rfl (by decide)) (by decide) (by decide)]
  obtain rfl | rfl | rfl : i = 0 ∨ i = 1 ∨ i = 2 := by omega
  all_goals rfl
 ·have hn : 2 ≤ n := by simpa [pCounts] using hc
  rw [rW_plain _ _ (e25 rfl (by decide)) (by decide) (by decide)]
  have hr : pRoles 23 n = List.replicate 2 0 ++ List.replicate (n - 2) 1 := rfl
  have hp : dPlace 23 n (plc role) i = if 2 ≤ i then 2 else 1 := rfl
  rw [hr, hp]
  rcases i with _ | _ | j
  ·rfl
  ·rfl
  ·have e : (List.replicate 2 (0 : Int) ++ List.replicate (n - 2) 1).getD (j + 2) 0 = (1 : Int) := by
    show (List.replicate (n - 2) (1 : Int)).getD j 0 = 1
    exact getD_rep _ _ _ (by omega)
   rw [if_pos (by omega), e]
   rfl
 ·have hn : 2 ≤ n := by simpa [pCounts] using hc
  rw [rW_plain _ _ (e25 rfl (by decide)) (by decide) (by decide)]
  have hr : pRoles 28 n = (List.replicate (n - 1) 3).set (n - 2) 4 ++ [0] := rfl
  have hp : dPlace 28 n (plc role) i = if (i : Int) = n - 2 then 5 else if (i : Int) < n - 2 then 4 else 1 := rfl
  rw [hr, hp]
  by_cases h : i = n - 2
  ·have e : ((List.replicate (n - 1) (3 : Int)).set (n - 2) 4 ++ [0]).getD i 0 = (4 : Int) := by
    subst h
    rw [List.getD_eq_getElem?_getD, List.getElem?_append_left (by simp; omega), List.getElem?_set_self (by simp; omega)]; rfl
   rw [if_pos (by omega), e]
   rfl
  ·by_cases h2 : i < n - 2
   ·have e : ((List.replicate (n - 1) (3 : Int)).set (n - 2) 4 ++ [0]).getD i 0 = (3 : Int) := by
     rw [List.getD_eq_getElem?_getD, List.getElem?_append_left (by simp; omega), List.getElem?_set_ne (by omega), List.getElem?_replicate, if_pos (by omega)]; rfl
    rw [if_neg (by omega), if_pos (by omega), e]
    rfl
   ·have e : ((List.replicate (n - 1) (3 : Int)).set (n - 2) 4 ++ [0]).getD i 0 = (0 : Int) := by
     rw [List.getD_eq_getElem?_getD, List.getElem?_append_right (by simp; omega)]
     simp [show i - (n - 1) = 0 by omega]
    rw [if_neg (by omega), if_neg (by omega), e]
    rfl
 ·have hn : 2 ≤ n := by simpa [pCounts] using hc
  rw [rW_plain _ _ (e25 rfl (by decide)) (by decide) (by decide)]
  have hr : pRoles 41 n = ifL n := rfl
  have hp : dPlace 41 n (plc role) i = if i % 2 = 1 ∨ (i : Int) = n - 1 then 7 else 1 := rfl
  rw [hr, hp]
  unfold ifL
  by_cases he : n % 2 = 0
  ·rw [if_pos he, ifK_getD n i hi]
   by_cases h : i % 2 = 0
   ·rw [if_pos h, if_neg (by omega)]; rfl
   ·rw [if_neg h, if_pos (by omega)]; rfl
  ·rw [if_neg he]
   by_cases h : i = n - 1
   ·have e : ((ifK n).set (n - 1) 6).getD i 0 = (6 : Int) := by
     subst h
     rw [List.getD_eq_getElem?_getD, List.getElem?_set_self (by simp; omega)]; rfl
    rw [if_pos (by omega), e]
    rfl
   ·have e : ((ifK n).set (n - 1) 6).getD i 0 = (ifK n).getD i 0 := by rw [List.getD_eq_getElem?_getD, List.getElem?_set_ne (by omega), List.getD_eq_getElem?_getD]
    rw [e, ifK_getD n i hi]
    by_cases h2 : i % 2 = 0
    ·rw [if_pos h2, if_neg (by omega)]; rfl
    ·rw [if_neg h2, if_pos (by omega)]; rfl
 ·have hn : 2 ≤ n := by simpa [pCounts] using hc
  rw [rW_plain _ _ (e25 rfl (by decide)) (by decide) (by decide)]
  have hr : pRoles 49 n = 6 :: List.replicate (n - 1) 8 := rfl
  have hp : dPlace 49 n (plc role) i = if 0 < i then 8 else 7 := rfl
  rw [hr, hp]
  cases i with
  | zero => rfl
  | succ j =>
   have e : ((6 : Int) :: List.replicate (n - 1) 8).getD (j + 1) 0 = (8 : Int) := getD_rep (n - 1) j 8 (by omega)
   rw [if_pos (by omega), e]
   rfl
 ·rw [rW_plain _ _ (e25 rfl (by decide)) (by decide) (by decide)]
  have hr : pRoles 24 n = List.replicate n 1 := rfl
  rw [hr, getD_rep n i 1 hi]
  rfl
 ·have hr : pRoles 25 n = List.replicate n 1 := rfl
  rw [hr, getD_rep n i 1 hi]
  have hr : role = 0 ∨ role = 1 ∨ role = 2 ∨ role = 3 ∨ role = 4 ∨ role = 5 ∨ role = 6 ∨ role = 7 ∨ role = 8 := by omega
  rcases hr with rfl | rfl | rfl | rfl | rfl | rfl | rfl | rfl | rfl
  all_goals rfl
 ·rw [rW_plain _ _ (e25 rfl (by decide)) (by decide) (by decide)]
  have hr : pRoles 52 n = List.replicate n 7 := rfl
  rw [hr, getD_rep n i 7 hi]
  rfl
 ·obtain rfl : n = 2 := by simpa [pCounts] using hc
  rw [rW_plain _ _ (e25 rfl (by decide)) (by decide) (by decide)]
  obtain rfl | rfl : i = 0 ∨ i = 1 := by omega
  all_goals rfl
 ·obtain rfl : n = 2 := by simpa [pCounts] using hc
  rw [rW_plain _ _ (e25 rfl (by decide)) (by decide) (by decide)]
  obtain rfl | rfl : i = 0 ∨ i = 1 := by omega
  all_goals rfl
 ·obtain rfl : n = 2 := by simpa [pCounts] using hc
  rw [rW_plain _ _ (e25 rfl (by decide)) (by decide) (by decide)]
  obtain rfl | rfl : i = 0 ∨ i = 1 := by omega
  all_goals rfl
 ·obtain rfl : n = 2 := by simpa [pCounts] using hc
  rw [rW_plain _ _ (e25 rfl (by decide)) (by decide) (by decide)]
  obtain rfl | rfl : i = 0 ∨ i = 1 := by omega
  all_goals rfl
 ·obtain rfl : n = 2 := by simpa [pCounts] using hc
  rw [rW_plain _ _ (e25 rfl (by decide)) (by decide) (by decide)]
  obtain rfl | rfl : i = 0 ∨ i = 1 := by omega
  all_goals rfl
 ·obtain rfl : n = 2 := by simpa [pCounts] using hc
  rw [rW_plain _ _ (e25 rfl (by decide)) (by decide) (by decide)]
  obtain rfl | rfl : i = 0 ∨ i = 1 := by omega
  all_goals rfl
 ·have hn : n = 2 ∨ n = 3 := by simpa [pCounts] using hc
  rw [rW_plain _ _ (e25 rfl (by decide)) (by decide) (by decide)]
  rcases hn with rfl | rfl
  ·obtain rfl | rfl : i = 0 ∨ i = 1 := by omega
   all_goals rfl
  ·obtain rfl | rfl | rfl : i = 0 ∨ i = 1 ∨ i = 2 := by omega
   all_goals rfl
def awayB (op : Int) (loop : Bool) : Bool := (op == 45 || op == 46) && !loop
def oBad (st cn fv : Bool) (nm : Int) (aw : Bool) : Bool := !st || !cn || !fv || nm == 2 || aw
theorem pOwn_doc (x : Nd) (role : Int) (h0 : 0 ≤ role) (h8 : role ≤ 8) (loop : Bool) : pOwn x role loop = if oBad (pStands x.op role) (dCounts x.op x.l.length) (fairV x.op x.v) (dNamed x.op x.s) (awayB x.op loop) then 103 else if dNamed x.op x.s = 1 then 106 else 0 := by
 have hst := dCounts_eq x.op x.l.length role h0 h8
 have hp : pOwn x role loop = if ownBad (fair1 (pStands x.op role) loop x.op && fairV x.op x.v) (pCounts x.op x.l.length) (pNamed x.op).1 x.s.toList.isEmpty then 103 else if ownBad2 (pNamed x.op).1 (pName x.s) (pNamed x.op).2 x.s.toList.isEmpty then 106 else 0 := rfl
 rw [hp]
 have hnm : (dNamed x.op x.s = 2 ↔ (!(pNamed x.op).1 && !x.s.toList.isEmpty) = true) ∧ (dNamed x.op x.s = 1 ↔ ownBad2 (pNamed x.op).1 (pName x.s) (pNamed x.op).2 x.s.toList.isEmpty = true) := by
  unfold dNamed pNamed ownBad2
  by_cases h1 : x.op = 2 ∨ x.op = 24 ∨ x.op = 42 ∨ x.op = 43
  ·rw [if_pos h1, if_pos h1]
   cases pName x.s <;> cases x.s.toList.isEmpty <;> simp
  ·rw [if_neg h1, if_neg h1]
   by_cases h2 : x.op = 50
   ·rw [if_pos h2, if_pos h2]
    cases pName x.s <;> cases x.s.toList.isEmpty <;> simp
   ·rw [if_neg h2, if_neg h2]
    cases x.s.toList.isEmpty <;> simp
 obtain ⟨hn2, hn1⟩ := hnm
 have haw : fair1 (pStands x.op role) loop x.op = (pStands x.op role && !awayB x.op loop) := by
  unfold fair1 awayB
  cases loop
  ·cases h45 : (x.op == 45) <;> cases h46 : (x.op == 46) <;> simp [bne, h45, h46]
  ·simp
 rw [haw]
 have hob : (oBad (pStands x.op role) (dCounts x.op x.l.length) (fairV x.op x.v) (dNamed x.op x.s) (awayB x.op loop)) = ownBad (pStands x.op role && !awayB x.op loop && fairV x.op x.v) (pCounts x.op x.l.length) (pNamed x.op).1 x.s.toList.isEmpty := by
  have hb2 : (dNamed x.op x.s == 2) = (!(pNamed x.op).1 && !x.s.toList.isEmpty) := by
   rw [Bool.eq_iff_iff, beq_iff_eq]
   exact hn2
  unfold oBad ownBad
  rw [hb2]
  cases hs : pStands x.op role
  ·simp
  ·rw [hst hs]
   cases pCounts x.op x.l.length <;> cases fairV x.op x.v <;> cases awayB x.op loop <;> simp
 rw [hob]
 by_cases hb : ownBad2 (pNamed x.op).1 (pName x.s) (pNamed x.op).2 x.s.toList.isEmpty = true
 ·rw [if_pos (hn1.2 hb), if_pos hb]
 ·rw [if_neg (fun h => hb (hn1.1 h)), if_neg hb]
def dLoop (op : Int) (loop : Bool) : Bool := if op = 42 ∨ op = 43 ∨ op = 44 then true else if op = 48 then false else loop
theorem expr_op {op role : Int} (h0 : 0 ≤ role) (h5 : role ≤ 5) (h : pStands op role = true) : 1 ≤ op ∧ op ≤ 29 := by
 have hr : role = 0 ∨ role = 1 ∨ role = 2 ∨ role = 3 ∨ role = 4 ∨ role = 5 := by omega
 rcases hr with rfl | rfl | rfl | rfl | rfl | rfl
 all_goals simp [pStands, isExpr] at h
 all_goals omega
def RangeOk5 (l : List Int) : Prop := ∀ r ∈ l, 0 ≤ r ∧ r ≤ 5
theorem RangeOk5.ite {c : Prop} [Decidable c] {a b : List Int} (ha : RangeOk5 a) (hb : RangeOk5 b) : RangeOk5 (if c then a else b) := by
 split
 ·exact ha
 ·exact hb
theorem RangeOk5.rep (n : Nat) {a : Int} (h0 : 0 ≤ a) (h8 : a ≤ 5) : RangeOk5 (List.replicate n a) := fun r hr => by rw [(List.mem_replicate.1 hr).2]; exact ⟨h0, h8⟩
theorem RangeOk5.append {a b : List Int} (ha : RangeOk5 a) (hb : RangeOk5 b) : RangeOk5 (a ++ b) := fun r hr => (List.mem_append.1 hr).elim (ha r) (hb r)
theorem RangeOk5.set {a : List Int} (ha : RangeOk5 a) (i : Nat) {x : Int} (h0 : 0 ≤ x) (h8 : x ≤ 5) : RangeOk5 (a.set i x) := fun r hr => (List.mem_or_eq_of_mem_set hr).elim (ha r) fun e => by rw [e]; exact ⟨h0, h8⟩
theorem RangeOk5.take {a : List Int} (ha : RangeOk5 a) (n : Nat) : RangeOk5 (a.take n) := fun r hr => ha r (List.mem_of_mem_take hr)
theorem RangeOk5.nil : RangeOk5 [] := fun r hr => by cases hr
theorem RangeOk5.cons {a : Int} {l : List Int} (h0 : 0 ≤ a) (h8 : a ≤ 5) (h : RangeOk5 l) : RangeOk5 (a :: l) := fun r hr => by
 rcases List.mem_cons.1 hr with rfl | h'
 ·exact ⟨h0, h8⟩
 ·exact h r h'
theorem expr_roles (op : Int) (n : Nat) (h1 : 1 ≤ op) (h2 : op ≤ 29) : ∀ r ∈ pRoles op n, 0 ≤ r ∧ r ≤ 5 := by
 have h : RangeOk5 (pRoles op n) := by
  unfold pRoles
  have n41 : ¬ op = 41 := by omega
  have n49 : ¬ op = 49 := by omega
  have n43 : ¬ op = 43 := by omega
  have n42 : ¬ (op = 42 ∨ op = 44 ∨ op = 48) := by omega
  have n50 : ¬ op = 50 := by omega
  have n51 : ¬ op = 51 := by omega
  have n52 : ¬ op = 52 := by omega
  rw [if_neg n43, if_neg n41, if_neg n49, if_neg n52, if_neg n42, if_neg n50, if_neg n51]
  repeat' first | exact RangeOk5.nil | refine RangeOk5.ite ?_ ?_ | refine RangeOk5.rep _ (by decide) (by decide) | refine RangeOk5.append ?_ ?_ | refine RangeOk5.set ?_ _ (by decide) (by decide) | refine RangeOk5.take ?_ _ | refine RangeOk5.cons (by decide) (by decide) ?_
 exact h
theorem rW_expr {role op : Int} {i : Nat} {r : Int} (h0 : 0 ≤ r) (h5 : r ≤ 5) : 0 ≤ rW role op i r ∧ rW role op i r ≤ 5 := by
 unfold rW
 split
 ·omega
 split
 ·omega
 split <;> omega
mutual
theorem walk_flag : ∀ (x : Nd) (role : Int) (lp : Bool), 0 ≤ role → role ≤ 5 → pWalk x role lp = pWalk x role true
 | .mk op ln s v l, role, lp, h0, h5 => by
  have hown : pOwn (.mk op ln s v l) role lp = pOwn (.mk op ln s v l) role true := by
   have hf : fair1 (pStands op role) lp op = fair1 (pStands op role) true op := by
    unfold fair1
    cases hs : pStands op role
    ·rfl
    ·have := expr_op h0 h5 hs
     have e1 : (op != 45) = true := by rw [bne_iff_ne]; omega
     have e2 : (op != 46) = true := by rw [bne_iff_ne]; omega
     rw [e1, e2]
     cases lp <;> rfl
   show (if ownBad (fair1 (pStands op role) lp op && fairV op v) (pCounts op l.length) (pNamed op).1 s.toList.isEmpty then 103 else if ownBad2 (pNamed op).1 (pName s) (pNamed op).2 s.toList.isEmpty then 106 else 0) = _
   rw [hf]
   rfl
  rw [pWalk, pWalk, hown]
  by_cases hz : pOwn (.mk op ln s v l) role true = 0
  ·rw [if_pos hz, if_pos hz]
   have hs : pStands op role = true := by
    cases hs : pStands op role
    ·exfalso
     have : pOwn (.mk op ln s v l) role true = if ownBad (fair1 (pStands op role) true op && fairV op v) (pCounts op l.length) (pNamed op).1 s.toList.isEmpty then 103 else if ownBad2 (pNamed op).1 (pName s) (pNamed op).2 s.toList.isEmpty then 106 else 0 := rfl
     rw [this, hs] at hz
     simp [fair1, ownBad] at hz
    ·rfl
   have ho := expr_op h0 h5 hs
   exact walkL_flag l op role lp true (pRoles op l.length) 0 ho.1 ho.2 (expr_roles op _ ho.1 ho.2)
  ·rw [if_neg hz, if_neg hz]
theorem walkL_flag : ∀ (l : List Nd) (op role : Int) (lp lq : Bool) (R : List Int) (i : Nat), 1 ≤ op → op ≤ 29 → (∀ r ∈ R, 0 ≤ r ∧ r ≤ 5) → pWalkL op role lp R i l = pWalkL op role lq R i l
 | [], op, role, lp, lq, R, i, h1, h2, hR => by rw [pWalkL, pWalkL]
 | y :: r, op, role, lp, lq, R, i, h1, h2, hR => by
  have hrr : 0 ≤ R.getD i 0 ∧ R.getD i 0 ≤ 5 := by
   by_cases h : i < R.length
   ·have : R.getD i 0 = R[i] := by simp [List.getD, h]
    rw [this]
    exact hR _ (List.getElem_mem h)
   ·simp [List.getD, List.getElem?_eq_none (Nat.le_of_not_lt h)]
  have hw := rW_expr (role := role) (op := op) (i := i) hrr.1 hrr.2
  have e1 := walk_flag y (rW role op i (R.getD i 0)) (inW op lp (rW role op i (R.getD i 0))) hw.1 hw.2
  have e2 := walk_flag y (rW role op i (R.getD i 0)) (inW op lq (rW role op i (R.getD i 0))) hw.1 hw.2
  rw [pWalkL_cons, pWalkL_cons, e1, e2, walkL_flag r op role lp lq R (i + 1) h1 h2 hR]
end
end
section
open Go.RowKit
theorem svs_none (a : Option Addr) (n c : Nat) (hn : n ≤ 9223372036854775807) (w : World) : Calls Tryz.prog 90 #[.slice a n c, .slice none 0 0] w fun e w' => e = .returned (.bool (decide (n = 0))) ∧ w = w' := by
 by_cases h : n = 0
 ·subst h
  go_enter Tryz.func90, Tryz.ntmps90
  go_wp2
  go_loop [5] (fun i => i = .int .i64 0) (fun _ => 0)
  case atStart => rfl
  case round =>
   subst hrel
   go_wp2
   go_ret
   exact ⟨rfl, rfl⟩
 ·have hq : ((n : Int) != 0) = true := by simp; omega
  have HR := hid (show decide (n = 0) = false from decide_eq_false h)
  generalize decide (n = 0) = r at *
  clear h
  go_enter Tryz.func90, Tryz.ntmps90
  go_wp2
  go_ret
  exact ⟨ret_bool HR.out.symm, rfl⟩
set_option maxHeartbeats 1600000 in
theorem sv_none (k n : Int) (s : ByteArray) (a : Option Addr) (m c : Nat) (hm : m ≤ 9223372036854775807) (w : World) : Calls Tryz.prog 63 #[.agg #[.int .i64 k, .int .i64 n, .string s, .slice a m c], .agg #[.int .i64 0, .int .i64 0, .string ⟨#[]⟩, .slice none 0 0]] w fun e w' => e = .returned (.bool (k == 0 && n == 0 && s.toList.isEmpty && decide (m = 0))) ∧ Fr (fun _ => False) w w' := by
 have HC := hid (fun w => svs_none a m c hm w)
 obtain ⟨r, hr⟩ : ∃ r, (k == 0 && n == 0 && s.toList.isEmpty && decide (m = 0)) = r := ⟨_, rfl⟩
 rw [hr]
 have HR := hid hr
 clear hr hm
 generalize decide (m = 0) = b at *
 have hF : Fr (fun _ => False) w ((w.alloc (.cells #[.int .i64 k, .int .i64 n, .string s, .slice a m c] 44)).alloc (.cells #[.int .i64 0, .int .i64 0, .string ⟨#[]⟩, .slice none 0 0] 44)) := ((Fr.refl _ _).alloc _).alloc _
 have hb2 : ((w.alloc (.cells #[.int .i64 k, .int .i64 n, .string s, .slice a m c] 44)).alloc (.cells #[.int .i64 0, .int .i64 0, .string ⟨#[]⟩, .slice none 0 0] 44)).heap[w.heap.size]? = some (.cells #[.int .i64 k, .int .i64 n, .string s, .slice a m c] 44) := ((Fr.refl (fun _ => False) _).alloc _).heap (heap_alloc_new w _) not_false
 have hb3 : ((w.alloc (.cells #[.int .i64 k, .int .i64 n, .string s, .slice a m c] 44)).alloc (.cells #[.int .i64 0, .int .i64 0, .string ⟨#[]⟩, .slice none 0 0] 44)).heap[w.heap.size + 1]? = some (.cells #[.int .i64 0, .int .i64 0, .string ⟨#[]⟩, .slice none 0 0] 44) := by
  have := heap_alloc_new (w.alloc (.cells #[.int .i64 k, .int .i64 n, .string s, .slice a m c] 44)) (.cells #[.int .i64 0, .int .i64 0, .string ⟨#[]⟩, .slice none 0 0] 44)
  simpa using this
 go_enter Tryz.func63, Tryz.ntmps63
 go_upto_region 1 with fail
 generalize (w.alloc (.cells #[.int .i64 k, .int .i64 n, .string s, .slice a m c] 44)).alloc (.cells #[.int .i64 0, .int .i64 0, .string ⟨#[]⟩, .slice none 0 0] 44) = W at *
 have d0 : W.cell? ⟨w.heap.size, 0, none⟩ = some (.int .i64 k) := by rw [cell_of_row W _ 0 _ _ _ hb2]; rfl
 have d1 : W.cell? ⟨w.heap.size, 1, none⟩ = some (.int .i64 n) := by rw [cell_of_row W _ 1 _ _ _ hb2]; rfl
 have d2 : W.cell? ⟨w.heap.size, 2, none⟩ = some (.string s) := by rw [cell_of_row W _ 2 _ _ _ hb2]; rfl
 have d3 : W.cell? ⟨w.heap.size, 3, none⟩ = some (.slice a m c) := by rw [cell_of_row W _ 3 _ _ _ hb2]; rfl
 have g0 : W.cell? ⟨w.heap.size + 1, 0, none⟩ = some (.int .i64 0) := by rw [cell_of_row W _ 0 _ _ _ hb3]; rfl
 have g1 : W.cell? ⟨w.heap.size + 1, 1, none⟩ = some (.int .i64 0) := by rw [cell_of_row W _ 1 _ _ _ hb3]; rfl
 have g2 : W.cell? ⟨w.heap.size + 1, 2, none⟩ = some (.string ⟨#[]⟩) := by rw [cell_of_row W _ 2 _ _ _ hb3]; rfl
 have g3 : W.cell? ⟨w.heap.size + 1, 3, none⟩ = some (.slice none 0 0) := by rw [cell_of_row W _ 3 _ _ _ hb3]; rfl
 have HF := hid hF
 clear hF hb2 hb3
 go_wp2_with fail
 refine (HC.out W).mono ?_
 rintro e w2 ⟨rfl, rfl⟩
 cases b
 ·have HX := hid (show r = false by rw [← HR.out, Bool.and_false])
  go_wp2_with fail
  go_ret
  exact ⟨ret_bool HX.out.symm, HF.out⟩
 cases hk : (k == 0)
 ·have HX := hid (show r = false by rw [← HR.out, hk]; rfl)
  go_wp2_with fail
  go_ret
  exact ⟨ret_bool HX.out.symm, HF.out⟩
 cases hn : (n == 0)
 ·have HX := hid (show r = false by rw [← HR.out, hk, hn]; rfl)
  go_wp2_with fail
  go_ret
  exact ⟨ret_bool HX.out.symm, HF.out⟩
 have HX := hid (show r = s.toList.isEmpty by rw [← HR.out, hk, hn]; simp)
 go_wp2_with fail
 go_ret
 exact ⟨ret_bool HX.out.symm, HF.out⟩
theorem noV_eq (v : V) : noV v = (v.k == 0 && v.n == 0 && v.s.toList.isEmpty && decide (v.l.length = 0)) := rfl
end
section
open Go.RowKit
def faultV (c : Int) (p : Bool) (l : Int) : Value := .agg #[.int .i64 c, .bool p, .int .i64 l, .int .i64 0, .int .i64 0, .string ⟨#[]⟩, .slice none 0 0]
set_option maxHeartbeats 800000 in
theorem placed_any (n l : Int) (hn : n ≠ 0) (w : World) : Calls Tryz.prog 74 #[.int .i64 n, .int .i64 l] w fun e w' => e = .returned (faultV n true l) ∧ Fr (fun _ => False) w w' := by
 have q0 : (n == 0) = false := by simpa using hn
 go_enter Tryz.func74, Tryz.ntmps74
 go_wp2
 have hR : (w.alloc (.cells #[.int .i64 n, .bool true, .int .i64 l, .int .i64 0, .int .i64 0, .string ⟨#[]⟩, .slice none 0 0] 46)).heap[w.heap.size]? = some (.cells #[.int .i64 n, .bool true, .int .i64 l, .int .i64 0, .int .i64 0, .string ⟨#[]⟩, .slice none 0 0] 46) := heap_alloc_new w _
 refine bodyPost_ret (results_cell_row rfl _ _ w.heap.size _ _ _ _ rfl hR Tryz.underlying46 rfl (by kernel_rfl)) rfl ?_
 exact ⟨rfl, (Fr.refl _ _).alloc _⟩
end
section
section
variable {P : Program} {Q : Exit → Act → World → Prop} {tk : List Nat} {l : List Oper} {S : World → Prop}
theorem wpF_begin {id : Nat} {a : Act} {w : World} (tk : List Nat) (S : World → Prop) (hm : P.follows .mixedOrders = true) (h : wpAnyF P tk l.toArray Q S l.length (Array.replicate l.length false) a w.drew) : (Code.region id l.toArray true).wp P Q a w := by
 refine wp_region_any hm (wpAny_of_F (tk := tk) (S := S) _ _ _ _ ?_)
 simpa using h
theorem wpF_take {fuel i : Nat} {listed : Array Bool} {a : Act} {w : World} {o : Oper} (v : Value) (hs : Region.noSelect l.toArray = true) (hQ : ∀ c a d v w, Q (.panic c) (Act.put a d v) w → Q (.panic c) a w)
  (hc : (tk.contains i && Region.free .any l.toArray listed i && (Region.ready .any l.toArray listed).contains i) = true) (hi : nth l i = some o) (hg : Region.wanted o (yielded l.toArray a.tmps) = true) (hS : S w)
  (hy : ∀ w', S w' → (execOp a.eval o).run P w' = .ok (.value v) w') (h : wpAnyF P tk l.toArray Q S fuel (listed.setIfInBounds i true) (a.put o.dst v) w) : wpAnyF P tk l.toArray Q S (fuel + 1) listed a w := by
 simp only [Bool.and_eq_true] at hc
 obtain ⟨⟨ht, hf⟩, hr⟩ := hc
 have hi' := (nth_spec l i).trans hi
 exact wpAnyF_first hi' (by simpa using ht) (Region.noSelect_spec hs) (fun c a w => hQ c a _ _ w) fuel listed a w (Region.free_spec hi' hf) (by simpa using hr) (.inl ⟨hg, hy⟩) hS h
theorem wpF_run {fuel i : Nat} {listed : Array Bool} {a : Act} {w : World} {o : Oper} (hr : (Region.ready .any l.toArray listed == [i]) = true) (hi : nth l i = some o) (hg : Region.wanted o (yielded l.toArray a.tmps) = true)
  (h : ∀ K : Act → World → Prop, (∀ a' w', S w' → wpAnyF P tk l.toArray Q S fuel (listed.setIfInBounds i true) a' w' → K a' w') → o.wp P a w K Q) : wpAnyF P tk l.toArray Q S (fuel + 1) listed a w := by
 have hr' : Region.ready .any l.toArray listed = [i] := by simpa using hr
 refine ⟨fun h0 => (by rw [hr'] at h0; cases h0), fun j hj => ?_⟩
 rw [hr'] at hj
 simp only [List.mem_singleton] at hj
 subst hj
 unfold wpOp
 simp only [(nth_spec l j).trans hi, hg, if_true]
 exact .inl (h _ fun a' w' h1 h2 => ⟨fun _ => h1, h2⟩)
theorem wpF_run2 {fuel i j : Nat} {listed : Array Bool} {a : Act} {w : World} {o o' : Oper} (hr : (Region.ready .any l.toArray listed == [i, j]) = true) (hi : nth l i = some o) (hj : nth l j = some o') (hg : Region.wanted o (yielded l.toArray a.tmps) = true) (hg' : Region.wanted o' (yielded l.toArray a.tmps) = true)
  (h : ∀ K : Act → World → Prop, (∀ a' w', S w' → wpAnyF P tk l.toArray Q S fuel (listed.setIfInBounds i true) a' w' → K a' w') → o.wp P a w K Q)
  (h' : ∀ K : Act → World → Prop, (∀ a' w', S w' → wpAnyF P tk l.toArray Q S fuel (listed.setIfInBounds j true) a' w' → K a' w') → o'.wp P a w K Q) : wpAnyF P tk l.toArray Q S (fuel + 1) listed a w := by
 have hr' : Region.ready .any l.toArray listed = [i, j] := by simpa using hr
 refine ⟨fun h0 => (by rw [hr'] at h0; cases h0), fun q hq => ?_⟩
 rw [hr'] at hq
 simp only [List.mem_cons, List.not_mem_nil, or_false] at hq
 rcases hq with rfl | rfl
 ·unfold wpOp
  simp only [(nth_spec l q).trans hi, hg, if_true]
  exact .inl (h _ fun a' w' h1 h2 => ⟨fun _ => h1, h2⟩)
 ·unfold wpOp
  simp only [(nth_spec l q).trans hj, hg', if_true]
  exact .inl (h' _ fun a' w' h1 h2 => ⟨fun _ => h1, h2⟩)
theorem wpF_end {listed : Array Bool} {a : Act} {w : World} (hr : (Region.ready .any l.toArray listed).isEmpty = true) (h : Q .normal a w) : wpAnyF P tk l.toArray Q S 0 listed a w := ⟨by simpa using hr, h⟩
end
end
end Go.Proofs.YtbegahbagnflnaaGreatDoor
