/- Package tree: Count, Deep, count. -/
import Derived.Test.YteihmagldhmjgaaDoorNod
import Derived.Test.YteihmagldhmjgaaDoorRegion
namespace Go.Proofs.YteihmagldhmjgaaDoor
open Go.RowKit

set_option maxRecDepth 100000 in
set_option maxHeartbeats 1600000 in
theorem tcount_any : ∀ (N : Nat) (l : List Nd), cntL l < N → cntL l ≤ 4611686018427387904 → ∀ (D : Nat → Prop) (w : World) (v : Value), NL D w l v →
    Calls Tryd.prog 22 #[v] w fun e w' => e = .returned (.int .i64 (cntL l)) ∧ Fr (fun _ => False) w w' := by
  intro N
  induction N with
  | zero =>
    intro l hN hM D w v h
    omega
  | succ N ih =>
    intro l hN hM D w v h
    have hll := len_le_cnt l
    obtain ⟨a, cap, us, rfl, hc, hm, hn, hb, hi⟩ := h
    have hlI : (l.length : Int) ≤ 4611686018427387904 := by omega
    have HB := hid hb; have HI := hid hi; have HM := hid hM; have HN := hid hN
    clear hb hi hM hN hn hll hc hm
    go_enter Tryd.func22, Tryd.ntmps22
    go_wp2
    go_loopw [3, 10] (fun n i wr => ∃ k : Nat, k ≤ l.length ∧ i = .int .i64 k ∧ n = .int .i64 ((l.length : Int) + cntL (l.take k) - k) ∧ Fr (fun _ => False) w wr) (fun _ i _ => l.length - (intOf i).toNat)
    case atStart => exact ⟨0, Nat.zero_le _, rfl, by simp [cntL], Fr.refl _ _⟩
    case round =>
      obtain ⟨k, hk, rfl, rfl, hf⟩ := hrel
      by_cases hlt : k < l.length
      · obtain ⟨b, o, y, va, c1, a', c', rfl, -, hy, hv, e0, e1, e2, e3, e4, e5, e6, e7⟩ := NL.elem HB.out HI.out k hlt
        replace e0 := hf.cell e0 not_false
        replace e1 := hf.cell e1 not_false
        replace e2 := hf.cell e2 not_false
        replace e3 := hf.cell e3 not_false
        replace e4 := hf.cell e4 not_false
        replace e5 := hf.cell e5 not_false
        replace e6 := hf.cell e6 not_false
        replace e7 := hf.cell e7 not_false
        have t1 := cntL_take l k y hy
        have t2 := cntL_mem hy
        have t3 := cntL_take_le l (k + 1)
        have t4 := Nd.cnt_eq y
        obtain ⟨va2, vl, he, -, hyl⟩ := hv.open
        obtain rfl : vl = .slice a' y.l.length c' := by simpa using (congrArg (fun q => q.getD 7 undef) he).symm
        have hcl := fun o' => ih y.l (by have := HN.out; omega) (by have := HM.out; omega) D (wr.alloc o') _ (hyl.frame (hf.alloc o') fun _ _ => not_false)
        have hq : (l.length : Int) + cntL (l.take k) - k + cntL y.l ≤ 9223372036854775807 ∧ -9223372036854775808 ≤ (l.length : Int) + cntL (l.take k) - k + cntL y.l := by
          have := HM.out
          have h9 := len_le_cnt (l.take k)
          rw [List.length_take, Nat.min_eq_left (by omega)] at h9
          omega
        obtain ⟨hq1, hq2⟩ := hq
        have hqe : (l.length : Int) + cntL (l.take k) - k + cntL y.l = (l.length : Int) + cntL (l.take (k + 1)) - (k + 1) := by omega
        have HQE := hid hqe; have HF := hid hf; have HC := hid hcl
        clear t1 t2 t3 t4 hv hyl he hcl hf hy hqe
        go_wp2_with fail
        refine (HC.out _).mono ?_
        rintro e w2 ⟨rfl, hf2⟩
        have HF2 := hid ((HF.out.alloc _).trans' hf2); clear hf2
        go_wp2
        go_roundw
        case rel => exact ⟨k + 1, by omega, by go_num, int_eq HQE.out, HF2.out⟩
        case measure => simp [intOf]; omega
      · obtain rfl : k = l.length := by omega
        go_wp2
        go_ret
        exact ⟨ret_int (by rw [List.take_length]; omega), hf⟩
set_option maxRecDepth 100000 in
set_option maxHeartbeats 1600000 in
theorem tdeep_any : ∀ (N : Nat) (l : List Nd), cntL l < N → cntL l ≤ 4611686018427387904 → ∀ (D : Nat → Prop) (w : World) (v : Value), NL D w l v →
    Calls Tryd.prog 21 #[v] w fun e w' => e = .returned (.int .i64 (depL l)) ∧ Fr (fun _ => False) w w' := by
  intro N
  induction N with
  | zero =>
    intro l hN hM D w v h
    omega
  | succ N ih =>
    intro l hN hM D w v h
    have hll := len_le_cnt l
    obtain ⟨a, cap, us, rfl, hc, hm, hn, hb, hi⟩ := h
    have hlI : (l.length : Int) ≤ 4611686018427387904 := by omega
    have HB := hid hb; have HI := hid hi; have HM := hid hM; have HN := hid hN
    clear hb hi hM hN hn hll hc hm
    go_enter Tryd.func21, Tryd.ntmps21
    go_wp2
    go_loopw [3, 8] (fun n i wr => ∃ k : Nat, k ≤ l.length ∧ i = .int .i64 k ∧ n = .int .i64 (depL (l.take k)) ∧ Fr (fun _ => False) w wr) (fun _ i _ => l.length - (intOf i).toNat)
    case atStart => exact ⟨0, Nat.zero_le _, rfl, by simp [depL], Fr.refl _ _⟩
    case round =>
      obtain ⟨k, hk, rfl, rfl, hf⟩ := hrel
      by_cases hlt : k < l.length
      · obtain ⟨b, o, y, va, c1, a', c', rfl, -, hy, hv, e0, e1, e2, e3, e4, e5, e6, e7⟩ := NL.elem HB.out HI.out k hlt
        replace e0 := hf.cell e0 not_false
        replace e1 := hf.cell e1 not_false
        replace e2 := hf.cell e2 not_false
        replace e3 := hf.cell e3 not_false
        replace e4 := hf.cell e4 not_false
        replace e5 := hf.cell e5 not_false
        replace e6 := hf.cell e6 not_false
        replace e7 := hf.cell e7 not_false
        have t1 := cntL_take l k y hy
        have t2 := cntL_mem hy
        have t3 := cntL_take_le l (k + 1)
        have t4 := Nd.cnt_eq y
        obtain ⟨va2, vl, he, -, hyl⟩ := hv.open
        obtain rfl : vl = .slice a' y.l.length c' := by simpa using (congrArg (fun q => q.getD 7 undef) he).symm
        have hcl := fun o' => ih y.l (by have := HN.out; omega) (by have := HM.out; omega) D (wr.alloc o') _ (hyl.frame (hf.alloc o') fun _ _ => not_false)
        have d1 := depL_take l k y hy
        have d2 := Nd.dep_eq y
        have d3 := depL_le' y.l
        have d4 := depL_le' (l.take k)
        have d5 := cntL_take_le l k
        have hdy : (depL y.l : Int) ≤ 4611686018427387904 := by have := HM.out; omega
        have hdk : (depL (l.take k) : Int) ≤ 4611686018427387904 := by have := HM.out; omega
        have hmx : (depL (l.take (k + 1)) : Int) = max (depL (l.take k) : Int) (1 + depL y.l) := by omega
        have HMX := hid hmx; have HF := hid hf; have HC := hid hcl
        clear d1 d2 d3 d4 d5 hmx
        clear t1 t2 t3 t4 hv hyl he hcl hf hy
        go_wp2_with fail
        refine (HC.out _).mono ?_
        rintro e w2 ⟨rfl, hf2⟩
        have HF2 := hid ((HF.out.alloc _).trans' hf2); clear hf2
        generalize depL (l.take k) = p at *
        generalize depL y.l = q at *
        by_cases hpq : (p : Int) ≤ 1 + q
        · go_wp2
          all_goals
            go_roundw
            case rel => exact ⟨k + 1, by omega, by go_num, int_eq (by rw [HMX.out]; omega), HF2.out⟩
            case measure => simp [intOf]; omega
        · go_wp2
          all_goals
            go_roundw
            case rel => exact ⟨k + 1, by omega, by go_num, int_eq (by rw [HMX.out]; omega), HF2.out⟩
            case measure => simp [intOf]; omega
      · obtain rfl : k = l.length := by omega
        go_wp2
        go_ret
        exact ⟨ret_int (by rw [List.take_length]), hf⟩
set_option maxRecDepth 100000 in
set_option maxHeartbeats 1600000 in
theorem cnt_any : ∀ (N : Nat) (l : List Nd), cntL l < N → cntL l ≤ 4611686018427387904 → ∀ (n : Nat), n ≤ 4096 → ∀ (D : Nat → Prop) (w : World) (v : Value), NL D w l v →
    Calls Tryd.prog 54 #[v, .int .i64 n] w fun e w' => e = .returned (.int .i64 (min (n + cntL l) 4097 : Nat)) ∧ Fr (fun _ => False) w w' := by
  intro N
  induction N with
  | zero =>
    intro l hN hM n hn0 D w v h
    omega
  | succ N ih =>
    intro l hN hM n hn0 D w v h
    have hll := len_le_cnt l
    obtain ⟨a, cap, us, rfl, hc, hm, hn, hb, hi⟩ := h
    have hlI : (l.length : Int) ≤ 4611686018427387904 := by omega
    have HB := hid hb; have HI := hid hi; have HM := hid hM; have HN := hid hN
    clear hb hi hM hN hn hll hc hm
    go_enter Tryd.func54, Tryd.ntmps54
    go_wp2
    go_loopw [1, 9] (fun m i wr => ∃ k : Nat, k ≤ l.length ∧ i = .int .i64 k ∧ m = .int .i64 (n + cntL (l.take k) : Nat) ∧ n + cntL (l.take k) ≤ 4096 ∧ Fr (fun _ => False) w wr) (fun _ i _ => l.length - (intOf i).toNat)
    case atStart => exact ⟨0, Nat.zero_le _, rfl, by simp [cntL], by simp [cntL]; exact hn0, Fr.refl _ _⟩
    case round =>
      obtain ⟨k, hk, rfl, rfl, hb4, hf⟩ := hrel
      by_cases hlt : k < l.length
      · obtain ⟨b, o, y, va, c1, a', c', rfl, -, hy, hv, e0, e1, e2, e3, e4, e5, e6, e7⟩ := NL.elem HB.out HI.out k hlt
        replace e0 := hf.cell e0 not_false
        replace e1 := hf.cell e1 not_false
        replace e2 := hf.cell e2 not_false
        replace e3 := hf.cell e3 not_false
        replace e4 := hf.cell e4 not_false
        replace e5 := hf.cell e5 not_false
        replace e6 := hf.cell e6 not_false
        replace e7 := hf.cell e7 not_false
        have t1 := cntL_take l k y hy
        have t2 := cntL_mem hy
        have t3 := cntL_take_le l (k + 1)
        have t4 := Nd.cnt_eq y
        obtain ⟨va2, vl, he, -, hyl⟩ := hv.open
        obtain rfl : vl = .slice a' y.l.length c' := by simpa using (congrArg (fun q => q.getD 7 undef) he).symm
        obtain ⟨p, hp⟩ : ∃ p, n + cntL (l.take k) = p := ⟨_, rfl⟩
        rw [hp] at hb4
        rw [hp]
        have hpI : (p : Int) ≤ 4096 := by omega
        have htk := cntL_take_le l (k + 1)
        have HF := hid hf
        by_cases h5 : (4096 : Int) < (p : Int) + 1
        · have hres := hid (show (p : Int) + 1 = (min (n + cntL l) 4097 : Nat) by omega)
          clear t1 t2 t3 t4 hv hyl he hf hy htk hp
          go_wp2
          go_ret
          exact ⟨ret_int hres.out, HF.out.alloc _⟩
        · obtain ⟨p1, hp1⟩ : ∃ p1 : Nat, (p : Int) + 1 = p1 := ⟨p + 1, by omega⟩
          have hcl := fun o' => ih y.l (by have := HN.out; omega) (by have := HM.out; omega) (p + 1) (by omega) D (wr.alloc o') _ (hyl.frame (hf.alloc o') fun _ _ => not_false)
          obtain ⟨c9, hc9⟩ : ∃ c9, cntL y.l = c9 := ⟨_, rfl⟩
          have hx1 : n + cntL (l.take (k + 1)) = p + 1 + c9 := by omega
          have hx2 : p + 1 + c9 ≤ n + cntL l := by omega
          rw [hc9] at hcl
          have HC := hid hcl; have HX1 := hid hx1; have HX2 := hid hx2
          clear t1 t2 t3 t4 hv hyl he hcl hf hy htk hp hp1 hc9 hx1 hx2
          go_wp2_with fail
          refine (HC.out _).mono ?_
          rintro e w2 ⟨rfl, hf2⟩
          have HF2 := hid ((HF.out.alloc _).trans' hf2)
          clear hf2
          by_cases h6 : p + 1 + c9 ≤ 4096
          · have h7 : (min (p + 1 + c9) 4097 : Nat) = p + 1 + c9 := by omega
            rw [h7]
            have h8 : ¬ (4096 : Int) < ((p + 1 + c9 : Nat) : Int) := by omega
            obtain ⟨r, hr⟩ : ∃ r, p + 1 + c9 = r := ⟨_, rfl⟩
            rw [hr] at h8 ⊢
            have HRR := hid hr
            clear h6 h7 hr
            go_wp2_with fail
            go_roundw
            case rel => exact ⟨k + 1, by omega, by go_num, int_eq (by have := HX1.out; have := HRR.out; omega), by have := HX1.out; have := HRR.out; omega, HF2.out⟩
            case measure => simp [intOf]; omega
          · have h7 : (min (p + 1 + c9) 4097 : Nat) = 4097 := by omega
            rw [h7]
            have hres := hid (show (4097 : Int) = (min (n + cntL l) 4097 : Nat) by have := HX2.out; omega)
            clear h6 h7
            go_wp2_with fail
            go_ret
            exact ⟨ret_int hres.out, HF2.out⟩
      · obtain rfl : k = l.length := by omega
        go_wp2
        go_ret
        exact ⟨ret_int (by rw [List.take_length] at *; omega), hf⟩
end Go.Proofs.YteihmagldhmjgaaDoor
