/- inglenookref6, inglenookref1, inglenookref: names, keys' search, right values, how many, how deep. -/
import Derived.Test.YteihmagldhmjgaaDoorTreeF
import Derived.Test.YteihmagldhmjgaaDoorTreeN
import Derived.Test.YteihmagldhmjgaaDoorRefRight
import Derived.Test.YteihmagldhmjgaaDoorNodNum
namespace Go.Proofs.YteihmagldhmjgaaDoor
open Go.RowKit

theorem dsmall_any (c : Nat) (hc : c < 256) (w : World) : Calls Tryd.prog 100 #[.int .u8 c] w fun e w' => e = .returned (.bool (smallc c)) ∧ w = w' := by
  have h3 : (97 ≤ c ∧ c ≤ 122) ∨ 122 < c ∨ c = 95 ∨ (c < 97 ∧ c ≠ 95) := by omega
  rcases h3 with ⟨h1, h2⟩ | h1 | h1 | ⟨h1, h2⟩
  · have HR := hid (show smallc c = true from small_of (.inl ⟨h1, h2⟩))
    have g1 : (c : Int) ≥ 97 := by omega
    have g2 : (c : Int) ≤ 122 := by omega
    go_enter Tryd.func100, Tryd.ntmps100
    go_wp2
    go_ret
    exact ⟨ret_bool HR.out.symm, rfl⟩
  · have HR := hid (show smallc c = false from Bool.eq_false_iff.2 fun h => by have := small_cases h; omega)
    have g1 : (c : Int) ≥ 97 := by omega
    have g2 : ¬ (c : Int) ≤ 122 := by omega
    have g3 : ((c : Int) == 95) = false := by rw [beq_eq_false_iff_ne]; omega
    go_enter Tryd.func100, Tryd.ntmps100
    go_wp2
    go_ret
    exact ⟨ret_bool HR.out.symm, rfl⟩
  · subst h1
    go_enter Tryd.func100, Tryd.ntmps100
    go_wp2
    go_ret
    exact ⟨rfl, rfl⟩
  · have HR := hid (show smallc c = false from Bool.eq_false_iff.2 fun h => by have := small_cases h; omega)
    have g1 : ¬ (c : Int) ≥ 97 := by omega
    have g3 : ((c : Int) == 95) = false := by rw [beq_eq_false_iff_ne]; omega
    go_enter Tryd.func100, Tryd.ntmps100
    go_wp2
    go_ret
    exact ⟨ret_bool HR.out.symm, rfl⟩
def digc (c : Nat) : Bool := decide (48 ≤ c) && decide (c ≤ 57)
theorem ddigit_any (c : Nat) (hc : c < 256) (w : World) : Calls Tryd.prog 101 #[.int .u8 c] w fun e w' => e = .returned (.bool (digc c)) ∧ w = w' := by
  by_cases h1 : 48 ≤ c
  · have g1 : (c : Int) ≥ 48 := by omega
    by_cases h2 : c ≤ 57
    · have g2 : (c : Int) ≤ 57 := by omega
      have HR := hid (show digc c = true by simp [digc]; omega)
      go_enter Tryd.func101, Tryd.ntmps101
      go_wp2
      go_ret
      exact ⟨ret_bool HR.out.symm, rfl⟩
    · have g2 : ¬ (c : Int) ≤ 57 := by omega
      have HR := hid (show digc c = false by simp [digc]; omega)
      go_enter Tryd.func101, Tryd.ntmps101
      go_wp2
      go_ret
      exact ⟨ret_bool HR.out.symm, rfl⟩
  · have g1 : ¬ (c : Int) ≥ 48 := by omega
    have HR := hid (show digc c = false by simp [digc]; omega)
    go_enter Tryd.func101, Tryd.ntmps101
    go_wp2
    go_ret
    exact ⟨ret_bool HR.out.symm, rfl⟩
theorem okc_split (c : Nat) : okc c = (smallc c || digc c) := by
  rw [Bool.eq_iff_iff]
  simp [okc, smallc, digc]
  omega
theorem bName_no {s : ByteArray} (h : ¬ bName s) : decide (bName s) = false := decide_eq_false h
set_option maxHeartbeats 1600000 in
theorem disname_any (s : ByteArray) (hs : s.size ≤ 1099511627776) (w : World) : Calls Tryd.prog 76 #[.string s] w fun e w' => e = .returned (.bool (decide (bName s))) ∧ Fr (fun _ => False) w w' := by
  have hsI : (s.size : Int) ≤ 1099511627776 := by omega
  by_cases h1 : s.size < 1
  · have HR := hid (bName_no (s := s) fun h => by have := h.1; omega)
    generalize decide (bName s) = r at *
    clear hs
    go_enter Tryd.func76, Tryd.ntmps76
    go_wp2_with fail
    go_ret
    exact ⟨ret_bool HR.out.symm, Fr.refl _ _⟩
  by_cases h2 : 32 < s.size
  · have HR := hid (bName_no (s := s) fun h => by have := h.2.1; omega)
    generalize decide (bName s) = r at *
    clear hs
    go_enter Tryd.func76, Tryd.ntmps76
    go_wp2_with fail
    go_ret
    exact ⟨ret_bool HR.out.symm, Fr.refl _ _⟩
  have h0 : 0 < s.size := by omega
  have hb0 : at0 s 0 = s[0].toNat := by
    have : 0 < s.data.toList.length := by simpa using h0
    simp [at0, List.getD, h0]; rfl
  have HSM := hid (fun w => dsmall_any s[0].toNat s[0].toNat_lt w)
  cases hsm : smallc s[0].toNat
  · have HR := hid (bName_no (s := s) fun h => by have := h.2.2.1; rw [hb0, hsm] at this; cases this)
    generalize decide (bName s) = r at *
    rw [hsm] at HSM
    clear hs hb0 hsm
    go_enter Tryd.func76, Tryd.ntmps76
    go_wp2_with fail
    refine (HSM.out _).mono ?_
    rintro e w2 ⟨rfl, rfl⟩
    go_wp2_with fail
    go_ret
    exact ⟨ret_bool HR.out.symm, Fr.refl _ _⟩
  have HB0 := hid (show smallc (at0 s 0) = true by rw [hb0, hsm])
  rw [hsm] at HSM
  clear hb0 hsm
  obtain ⟨r, hr⟩ : ∃ r, decide (bName s) = r := ⟨_, rfl⟩
  rw [hr]
  have HRR := hid hr
  clear hr
  go_enter Tryd.func76, Tryd.ntmps76
  go_wp2_with fail
  refine (HSM.out _).mono ?_
  rintro e w2 ⟨rfl, rfl⟩
  go_wp2_with fail
  go_loopw [3] (fun i wr => ∃ k : Nat, k ≤ s.size ∧ i = .int .i64 k ∧ w = wr ∧ Hid (∀ j, j < k → okc (at0 s j) = true)) (fun i _ => s.size - (intOf i).toNat)
  case atStart => exact ⟨0, Nat.zero_le _, rfl, rfl, hid fun j hj => by omega⟩
  case round =>
    obtain ⟨k, hk, rfl, rfl, HA⟩ := hrel
    by_cases hlt : k < s.size
    · have hlt' : (k : Int) < s.size := by omega
      have hbk : at0 s k = s[k].toNat := by
        have : k < s.data.toList.length := by simpa using hlt
        simp [at0, List.getD, hlt]; rfl
      have HK := hid (dsmall_any s[k].toNat s[k].toNat_lt w)
      have HD := hid (ddigit_any s[k].toNat s[k].toNat_lt w)
      have hsp := okc_split s[k].toNat
      generalize smallc s[k].toNat = sm at *
      generalize digc s[k].toNat = dg at *
      cases sm
      · cases dg
        · have HR := hid (show r = false by rw [← HRR.out]; exact bName_no fun h => by have := h.2.2.2 k hlt; rw [hbk, hsp] at this; cases this)
          clear hbk hsp
          go_wp2_with fail
          refine HK.out.mono ?_
          rintro e w2 ⟨rfl, rfl⟩
          go_wp2_with fail
          refine HD.out.mono ?_
          rintro e w2 ⟨rfl, rfl⟩
          go_wp2_with fail
          go_ret
          exact ⟨ret_bool HR.out.symm, Fr.refl _ _⟩
        · have HOK := hid (show okc (at0 s k) = true by rw [hbk, hsp]; rfl)
          clear hbk hsp
          go_wp2_with fail
          refine HK.out.mono ?_
          rintro e w2 ⟨rfl, rfl⟩
          go_wp2_with fail
          refine HD.out.mono ?_
          rintro e w2 ⟨rfl, rfl⟩
          go_wp2_with fail
          go_roundw
          case rel => exact ⟨k + 1, by omega, by go_num, trivial, hid (all_step HA.out HOK.out)⟩
          case measure => simp [intOf]; omega
      · have HOK := hid (show okc (at0 s k) = true by rw [hbk, hsp]; rfl)
        clear hbk hsp
        go_wp2_with fail
        refine HK.out.mono ?_
        rintro e w2 ⟨rfl, rfl⟩
        go_wp2_with fail
        go_roundw
        case rel => exact ⟨k + 1, by omega, by go_num, trivial, hid (all_step HA.out HOK.out)⟩
        case measure => simp [intOf]; omega
    · obtain rfl : k = s.size := by omega
      have HR := hid (show r = true by rw [← HRR.out]; exact decide_eq_true ⟨by omega, by omega, HB0.out, HA.out⟩)
      go_wp2_with fail
      go_ret
      exact ⟨ret_bool HR.out.symm, Fr.refl _ _⟩
set_option maxHeartbeats 800000 in
theorem dholds_any (s : ByteArray) (l : List ByteArray) (hl : l.length ≤ 1099511627776) (v : Value) (w : World) (h : Ss Tv w v l) : Calls Tryd.prog 77 #[v, .string s] w fun e w' => e = .returned (.bool (memB s l)) ∧ w = w' := by
  obtain ⟨a, c, rfl, h1, h2, hk⟩ := h
  have HC := hid hk
  have hlI : (l.length : Int) ≤ 1099511627776 := by omega
  have HM := hid (memB_iff (s := s) (l := l))
  clear hk h1 h2 hl
  generalize memB s l = r at *
  go_enter Tryd.func77, Tryd.ntmps77
  go_wp2_with fail
  go_loopw [5] (fun i wr => ∃ k : Nat, k ≤ l.length ∧ i = .int .i64 k ∧ w = wr ∧ Hid (∀ j, j < k → l.getD j ByteArray.empty ≠ s)) (fun i _ => l.length - (intOf i).toNat)
  case atStart => exact ⟨0, Nat.zero_le _, rfl, rfl, hid fun j hj => by omega⟩
  case round =>
    obtain ⟨k, hk, rfl, rfl, HA⟩ := hrel
    by_cases hlt : k < l.length
    · obtain ⟨b, o, rfl, -, hc⟩ := HC.out k hlt
      have hlt' : (k : Int) < l.length := by omega
      by_cases he : s = l.getD k ByteArray.empty
      · have HR := hid (show r = true from HM.out.2 (by rw [he]; simp [List.getD, hlt]))
        have hq := toList_same he.symm
        generalize l.getD k ByteArray.empty = d at *
        clear he
        go_wp2_with fail
        go_ret
        exact ⟨ret_bool HR.out.symm, rfl⟩
      · generalize hd : l.getD k ByteArray.empty = d at *
        have HNE := hid he
        have HD := hid hd
        have hq := toList_ne (Ne.symm he)
        clear hd he
        go_wp2_with fail
        go_roundw
        case rel => exact ⟨k + 1, by omega, by go_num, trivial, hid (all_step HA.out (by rw [HD.out]; exact fun e => HNE.out e.symm))⟩
        case measure => simp [intOf]; omega
    · obtain rfl : k = l.length := by omega
      have HR := hid (show r = false from Bool.eq_false_iff.2 fun h => by
        obtain ⟨j, hj, e⟩ := List.getElem_of_mem (HM.out.1 h)
        exact HA.out j hj (by simp [List.getD, hj, e]))
      go_wp2_with fail
      go_ret
      exact ⟨ret_bool HR.out.symm, rfl⟩
set_option maxHeartbeats 800000 in
theorem dright_any (x : V) (hM : x.size ≤ 1099511627776) (D : Nat → Prop) (w : World) (u : Array Value) (h : VIn D w x u) : Calls Tryd.prog 60 #[.agg u] w fun e w' => e = .returned (.bool (decide (x.valid = 0))) ∧ Fr (fun _ => False) w w' := by
  obtain ⟨v, rfl, a, cap, us, rfl, -⟩ := id h.open
  have hf := (Fr.refl (fun _ => False) w).alloc (.cells #[.int .i64 x.k, .int .i64 x.n, .string x.s, .slice a x.l.length cap] 26)
  have HC := hid (rvalid_any x hM D _ _ (h.frame hf fun _ _ => not_false))
  have HF := hid hf; have HG := hid (heap_alloc_new w (.cells #[.int .i64 x.k, .int .i64 x.n, .string x.s, .slice a x.l.length cap] 26))
  have hd : (x.valid == 0) = decide (x.valid = 0) := by
    by_cases h : x.valid = 0
    · rw [h]; rfl
    · rw [decide_eq_false h, beq_eq_false_iff_ne]; exact h
  generalize decide (x.valid = 0) = r at *
  generalize x.valid = rv at *
  clear h hM hf
  go_enter Tryd.func60, Tryd.ntmps60
  go_upto_region 1 with fail
  generalize hW : w.alloc (.cells #[.int .i64 x.k, .int .i64 x.n, .string x.s, .slice a x.l.length cap] 26) = W at *
  clear hW
  have d0 : W.cell? ⟨w.heap.size, 0, none⟩ = some (.int .i64 x.k) := by rw [cell_of_row _ _ 0 _ _ _ HG.out]; rfl
  have d1 : W.cell? ⟨w.heap.size, 1, none⟩ = some (.int .i64 x.n) := by rw [cell_of_row _ _ 1 _ _ _ HG.out]; rfl
  have d2 : W.cell? ⟨w.heap.size, 2, none⟩ = some (.string x.s) := by rw [cell_of_row _ _ 2 _ _ _ HG.out]; rfl
  have d3 : W.cell? ⟨w.heap.size, 3, none⟩ = some (.slice a x.l.length cap) := by rw [cell_of_row _ _ 3 _ _ _ HG.out]; rfl
  go_wp2_with fail
  refine HC.out.mono ?_
  rintro e w2 ⟨rfl, hf2⟩
  have HF2 := hid (HF.out.trans' hf2)
  clear hf2
  go_wp2_with fail
  go_ret
  exact ⟨rfl, HF2.out⟩
set_option maxRecDepth 100000 in
set_option maxHeartbeats 1600000 in
theorem dmany_any : ∀ (N : Nat) (l : List Nd), cntL l < N → cntL l ≤ 4611686018427387904 → ∀ (n : Nat), n ≤ 1048576 → ∀ (D : Nat → Prop) (w : World) (v : Value), NL D w l v →
    Calls Tryd.prog 59 #[v, .int .i64 n] w fun e w' => e = .returned (.int .i64 (if cntL l ≤ n then ((n - cntL l : Nat) : Int) else -1)) ∧ Fr (fun _ => False) w w' := by
  intro N
  induction N with
  | zero =>
    intro l hN hM n hn0 D w v h
    omega
  | succ N ih =>
    intro l hN hM n hn0 D w v h
    have hll := len_le_cnt l
    obtain ⟨a, cap, us, rfl, hc, hm, hn, hb, hi⟩ := h
    have hlI : (l.length : Int) ≤ 4611686018427387904 := by omega
    obtain ⟨r, hr⟩ : ∃ r : Int, (if cntL l ≤ n then ((n - cntL l : Nat) : Int) else -1) = r := ⟨_, rfl⟩
    rw [hr]
    have HB := hid hb; have HI := hid hi; have HM := hid hM; have HN := hid hN; have HR := hid hr
    clear hb hi hM hN hn hll hc hm hr
    go_enter Tryd.func59, Tryd.ntmps59
    go_wp2
    go_loopw [1, 5] (fun m i wr => ∃ k q : Nat, k ≤ l.length ∧ i = .int .i64 k ∧ m = .int .i64 q ∧ cntL (l.take k) + q = n ∧ Fr (fun _ => False) w wr) (fun _ i _ => l.length - (intOf i).toNat)
    case atStart => exact ⟨0, n, Nat.zero_le _, rfl, rfl, by simp [cntL], Fr.refl _ _⟩
    case round =>
      obtain ⟨k, q, hk, rfl, rfl, hb4, hf⟩ := hrel
      by_cases hlt : k < l.length
      · obtain ⟨b, o, y, va, c1, a', c', rfl, -, hy, hv, e0, e1, e2, e3, e4, e5, e6, e7⟩ := NL.elem HB.out HI.out k hlt
        have hlt' : (k : Int) < l.length := by omega
        replace e7 := hf.cell e7 not_false
        have t1 := cntL_take l k y hy
        have t2 := cntL_mem hy
        have t3 := cntL_take_le l (k + 1)
        have t4 := Nd.cnt_eq y
        have hqI : (q : Int) ≤ 1048576 := by omega
        obtain ⟨va2, vl, he, -, hyl⟩ := hv.open
        obtain rfl : vl = .slice a' y.l.length c' := by simpa using (congrArg (fun q => q.getD 7 undef) he).symm
        have HF := hid hf
        by_cases h5 : q < 1
        · have HX := hid (show r = -1 by rw [← HR.out, if_neg (by omega)])
          have h5I : (q : Int) < 1 := by omega
          clear t1 t2 t3 t4 hv hyl he hf hy hb4 e0 e1 e2 e3 e4 e5 e6
          go_wp2
          go_ret
          exact ⟨ret_int HX.out.symm, HF.out⟩
        · have h5I : ¬ (q : Int) < 1 := by omega
          obtain ⟨q1, hq1⟩ : ∃ q1 : Nat, q = q1 + 1 := ⟨q - 1, by omega⟩
          have hq1I : (q : Int) - 1 = q1 := by omega
          have hcl := ih y.l (by have := HN.out; omega) (by have := HM.out; omega) q1 (by omega) D wr _ (hyl.frame hf fun _ _ => not_false)
          have HCL := hid hcl
          by_cases h6 : cntL y.l ≤ q1
          · rw [if_pos h6] at HCL
            obtain ⟨q2, hq2⟩ : ∃ q2, q1 - cntL y.l = q2 := ⟨_, rfl⟩
            rw [hq2] at HCL
            have HB5 := hid (show cntL (l.take (k + 1)) + q2 = n by omega)
            clear t1 t2 t3 t4 hv hyl he hf hy hb4 e0 e1 e2 e3 e4 e5 e6 hcl h6 hq2 hq1
            go_wp2_with fail
            refine HCL.out.mono ?_
            rintro e w2 ⟨rfl, hf2⟩
            have HF2 := hid (HF.out.trans' hf2)
            clear hf2
            go_wp2_with fail
            go_roundw
            case rel => exact ⟨k + 1, q2, by omega, by go_num, rfl, HB5.out, HF2.out⟩
            case measure => simp [intOf]; omega
          · rw [if_neg h6] at HCL
            have HX := hid (show r = -1 by rw [← HR.out, if_neg (by omega)])
            clear t1 t2 t3 t4 hv hyl he hf hy hb4 e0 e1 e2 e3 e4 e5 e6 hcl h6 hq1
            go_wp2_with fail
            refine HCL.out.mono ?_
            rintro e w2 ⟨rfl, hf2⟩
            have HF2 := hid (HF.out.trans' hf2)
            clear hf2
            go_wp2_with fail
            go_ret
            exact ⟨ret_int HX.out.symm, HF2.out⟩
      · obtain rfl : k = l.length := by omega
        rw [List.take_length] at hb4
        have HX := hid (show r = q by rw [← HR.out, if_pos (by omega)]; omega)
        clear hb4
        go_wp2
        go_ret
        exact ⟨ret_int HX.out.symm, hf⟩
theorem dtoomany_any (l : List Nd) (hM : cntL l ≤ 4611686018427387904) (D : Nat → Prop) (w : World) (v : Value) (h : NL D w l v) :
    Calls Tryd.prog 41 #[v] w fun e w' => e = .returned (.bool (decide (4096 < cntL l))) ∧ Fr (fun _ => False) w w' := by
  have HC := hid (dmany_any (cntL l + 1) l (by omega) hM 4096 (by decide) D w v h)
  obtain ⟨a, cap, us, rfl, -⟩ := h
  by_cases hc : cntL l ≤ 4096
  · rw [if_pos hc] at HC
    have HR := hid (show decide (4096 < cntL l) = false from decide_eq_false (by omega))
    generalize decide (4096 < cntL l) = r at *
    obtain ⟨q, hq⟩ : ∃ q, 4096 - cntL l = q := ⟨_, rfl⟩
    rw [hq] at HC
    have hq0 : ¬ (q : Int) < 0 := by omega
    clear hq hc hM
    go_enter Tryd.func41, Tryd.ntmps41
    go_wp2_with fail
    refine HC.out.mono ?_
    rintro e w2 ⟨rfl, hf2⟩
    go_wp2_with fail
    go_ret
    exact ⟨ret_bool HR.out.symm, hf2⟩
  · rw [if_neg hc] at HC
    have HR := hid (show decide (4096 < cntL l) = true from decide_eq_true (by omega))
    generalize decide (4096 < cntL l) = r at *
    clear hc hM
    go_enter Tryd.func41, Tryd.ntmps41
    go_wp2_with fail
    refine HC.out.mono ?_
    rintro e w2 ⟨rfl, hf2⟩
    go_wp2_with fail
    go_ret
    exact ⟨ret_bool HR.out.symm, hf2⟩
set_option maxRecDepth 100000 in
set_option maxHeartbeats 1600000 in
theorem ddeep_any : ∀ (N : Nat) (l : List Nd), cntL l < N → cntL l ≤ 4611686018427387904 → ∀ (D : Nat → Prop) (w : World) (v : Value), NL D w l v →
    Calls Tryd.prog 30 #[v] w fun e w' => e = .returned (.int .i64 (depL l)) ∧ Fr (fun _ => False) w w' := by
  intro N
  induction N with
  | zero =>
    intro l hN hM D w v h
    omega
  | succ N ih =>
    intro l hN hM D w v h
    have hll := len_le_cnt l
    obtain ⟨a, cap, us, rfl, hc, hm, hn, hb, hi⟩ := h
    have hlI : (l.length : Int) ≤ 4611686018427387904 := by omega
    have HB := hid hb; have HI := hid hi; have HM := hid hM; have HN := hid hN
    clear hb hi hM hN hn hll hc hm
    go_enter Tryd.func30, Tryd.ntmps30
    go_wp2
    go_loopw [3, 4] (fun n i wr => ∃ k : Nat, k ≤ l.length ∧ i = .int .i64 k ∧ n = .int .i64 (depL (l.take k)) ∧ Fr (fun _ => False) w wr) (fun _ i _ => l.length - (intOf i).toNat)
    case atStart => exact ⟨0, Nat.zero_le _, rfl, by simp [depL], Fr.refl _ _⟩
    case round =>
      obtain ⟨k, hk, rfl, rfl, hf⟩ := hrel
      by_cases hlt : k < l.length
      · obtain ⟨b, o, y, va, c1, a', c', rfl, -, hy, hv, e0, e1, e2, e3, e4, e5, e6, e7⟩ := NL.elem HB.out HI.out k hlt
        have hlt' : (k : Int) < l.length := by omega
        replace e7 := hf.cell e7 not_false
        have t1 := cntL_take l k y hy
        have t2 := cntL_mem hy
        have t3 := cntL_take_le l (k + 1)
        have t4 := Nd.cnt_eq y
        obtain ⟨va2, vl, he, -, hyl⟩ := hv.open
        obtain rfl : vl = .slice a' y.l.length c' := by simpa using (congrArg (fun q => q.getD 7 undef) he).symm
        have hcl := ih y.l (by have := HN.out; omega) (by have := HM.out; omega) D wr _ (hyl.frame hf fun _ _ => not_false)
        have d1 := depL_take l k y hy
        have d2 := Nd.dep_eq y
        have d3 := depL_le' y.l
        have d4 := depL_le' (l.take k)
        have d5 := cntL_take_le l k
        have hdy : (depL y.l : Int) ≤ 4611686018427387904 := by have := HM.out; omega
        have hdk : (depL (l.take k) : Int) ≤ 4611686018427387904 := by have := HM.out; omega
        have hmx : (depL (l.take (k + 1)) : Int) = max (depL (l.take k) : Int) (1 + depL y.l) := by omega
        have HMX := hid hmx; have HF := hid hf; have HC := hid hcl
        clear d1 d2 d3 d4 d5 hmx e0 e1 e2 e3 e4 e5 e6
        clear t1 t2 t3 t4 hv hyl he hcl hf hy
        go_wp2_with fail
        refine HC.out.mono ?_
        rintro e w2 ⟨rfl, hf2⟩
        have HF2 := hid (HF.out.trans' hf2); clear hf2
        generalize depL (l.take k) = p at *
        generalize depL y.l = q at *
        by_cases hpq : (p : Int) ≤ 1 + q
        · go_wp2
          all_goals
            go_roundw
            case rel => exact ⟨k + 1, by omega, by go_num, int_eq (by rw [HMX.out]; omega), HF2.out⟩
            case measure => simp [intOf]; omega
        · go_wp2
          all_goals
            go_roundw
            case rel => exact ⟨k + 1, by omega, by go_num, int_eq (by rw [HMX.out]; omega), HF2.out⟩
            case measure => simp [intOf]; omega
      · obtain rfl : k = l.length := by omega
        go_wp2
        go_ret
        exact ⟨ret_int (by rw [List.take_length]), hf⟩
end Go.Proofs.YteihmagldhmjgaaDoor
