/- val.compare, val.Less: exact. -/
import Derived.Test.YtebanmigaikhhaaValSize
import Derived.Test.YtebanmigaikhhaaCmpStr
import Derived.Test.YtebanmigaikhhaaRegion
import Derived.IntWalk
namespace Go.Proofs.Ytebanmigaikhhaa
open Go.RowKit

mutual
def cmpV : V → V → Int
  | .mk k n s l, .mk k' n' s' l' => if k ≠ k' then k - k' else if n < n' then -1 else if n' < n then 1 else if cb s s' ≠ 0 then cb s s' else cmpL l l'
def cmpL : List V → List V → Int
  | [], m => -(m.length : Int)
  | _ :: _, [] => 1
  | x :: r, y :: t => if cmpV x y ≠ 0 then cmpV x y else cmpL r t
end
mutual
/-- Its kinds are kinds, all through. -/
def V.kr : V → Prop
  | .mk k _ _ l => 0 ≤ k ∧ k ≤ 4 ∧ krL l
def krL : List V → Prop
  | [] => True
  | x :: r => V.kr x ∧ krL r
end
theorem krL_mem : ∀ {l : List V} {i : Nat} {x : V}, krL l → l[i]? = some x → x.kr
  | [], i, x, _, h => by simp at h
  | y :: r, 0, x, hk, h => by simp at h; subst h; exact hk.1
  | y :: r, i + 1, x, hk, h => krL_mem hk.2 (by simpa using h)
theorem cmpV_eq (x y : V) : cmpV x y = if x.k ≠ y.k then x.k - y.k else if x.n < y.n then -1 else if y.n < x.n then 1 else if cb x.s y.s ≠ 0 then cb x.s y.s else cmpL x.l y.l := by
  cases x; cases y
  rw [cmpV]
  rfl
theorem kr_eq {x : V} (h : x.kr) : 0 ≤ x.k ∧ x.k ≤ 4 ∧ krL x.l := by
  cases x
  exact h

set_option maxHeartbeats 1600000 in
theorem vcmp_any : ∀ (N : Nat) (x y : V), x.size ≤ N → x.kr → y.kr → ∀ (D E : Nat → Prop) (w : World) (u u' : Array Value), VIn D w x u → VIn E w y u' →
    Calls Try.prog 57 #[.agg u, .agg u'] w fun e w' => e = .returned (.int .i64 (cmpV x y)) ∧ Fr (fun _ => False) w w' := by
  intro N
  induction N with
  | zero =>
    intro x y h
    rw [V.size_eq] at h
    omega
  | succ N ih =>
    intro x y hN hkx hky D E w u u' h h'
    obtain ⟨kx0, kx4, hkl⟩ := kr_eq hkx
    obtain ⟨ky0, ky4, hkl'⟩ := kr_eq hky
    have hce := cmpV_eq x y
    have hs := V.size_eq x
    obtain ⟨v, rfl, a, cap, us, rfl, hc, hm, hn, hb, hi⟩ := h.open
    obtain ⟨v', rfl, a', cap', us', rfl, hc', hm', hn', hb', hi'⟩ := h'.open
    have hlm : x.l.length ≤ 9223372036854775807 := Nat.le_trans hc hm
    have hlm' : y.l.length ≤ 9223372036854775807 := Nat.le_trans hc' hm'
    have hF : Fr (fun _ => False) w ((w.alloc (.cells #[.int .i64 x.k, .int .i64 x.n, .string x.s, .slice a x.l.length cap] 30)).alloc (.cells #[.int .i64 y.k, .int .i64 y.n, .string y.s, .slice a' y.l.length cap'] 30)) := ((Fr.refl _ _).alloc _).alloc _
    have hlI : (x.l.length : Int) ≤ 9223372036854775807 := by omega
    have hlI' : (y.l.length : Int) ≤ 9223372036854775807 := by omega
    by_cases hk : x.k = y.k
    rotate_left
    · rw [if_pos hk] at hce
      have q1 : (x.k != y.k) = true := by simpa using hk
      have q2 : IntKind.i64.wrap (x.k - y.k) = x.k - y.k := IntWalk.i64_in _ (by omega)
      have HC := hid hce; have HF := hid hF
      clear hb hi hb' hi' h h' hn hn' hN hs hkl hkl' hkx hky hce hF hk
      go_enter Try.func57, Try.ntmps57
      go_wp2
      go_ret
      exact ⟨ret_int HC.out.symm, HF.out⟩
    rw [if_neg (fun e => e hk)] at hce
    have q1 : (x.k != y.k) = false := by simpa using hk
    by_cases hn1 : x.n < y.n
    · rw [if_pos hn1] at hce
      have HC := hid hce; have HF := hid hF
      clear hb hi hb' hi' h h' hn hn' hN hs hkl hkl' hkx hky hce hF hk
      go_enter Try.func57, Try.ntmps57
      go_wp2
      go_ret
      exact ⟨ret_int HC.out.symm, HF.out⟩
    rw [if_neg hn1] at hce
    by_cases hn2 : y.n < x.n
    · rw [if_pos hn2] at hce
      have HC := hid hce; have HF := hid hF
      clear hb hi hb' hi' h h' hn hn' hN hs hkl hkl' hkx hky hce hF hk
      go_enter Try.func57, Try.ntmps57
      go_wp2
      go_ret
      exact ⟨ret_int HC.out.symm, HF.out⟩
    rw [if_neg hn2] at hce
    have hcs := cmpstr_any x.s y.s ((w.alloc (.cells #[.int .i64 x.k, .int .i64 x.n, .string x.s, .slice a x.l.length cap] 30)).alloc (.cells #[.int .i64 y.k, .int .i64 y.n, .string y.s, .slice a' y.l.length cap'] 30))
    by_cases hcb : cb x.s y.s ≠ 0
    · rw [if_pos hcb] at hce
      have hcb' : (cb x.s y.s != 0) = true := by simpa using hcb
      generalize cb x.s y.s = r at *
      have HC := hid hce; have HF := hid hF; have HCS := hid hcs
      clear hb hi hb' hi' h h' hn hn' hN hs hkl hkl' hkx hky hce hF hk hcs
      go_enter Try.func57, Try.ntmps57
      go_wp2_with fail
      refine HCS.out.mono ?_
      rintro e w2 ⟨rfl, rfl⟩
      go_wp2_with fail
      go_ret
      exact ⟨ret_int HC.out.symm, HF.out⟩
    rw [if_neg hcb] at hce
    have hcb0 : cb x.s y.s = 0 := by simpa using hcb
    rw [hcb0] at hcs
    rw [hce]
    clear hce hcb hcb0 hkx hky
    have HCS := hid hcs
    clear hcs
    have hnn : x.n = y.n := by omega
    rw [← hk, ← hnn] at HCS hF ⊢
    clear hk hnn hn1 hn2 q1 ky0 ky4 kx0 kx4
    generalize x.k = kk at *
    generalize x.n = nn at *
    generalize x.s = ss at *
    generalize y.s = ss' at *
    generalize x.l = l at *
    generalize y.l = l' at *
    have q1 : (kk != kk) = false := by simp
    have HB := hid hb; have HI := hid hi; have HS := hid hs; have HN := hid hN
    have HB' := hid hb'; have HI' := hid hi'; have HKL := hid hkl; have HKL' := hid hkl'
    have HF0 := hid hF
    have D0 : ((w.alloc (.cells #[.int .i64 kk, .int .i64 nn, .string ss, .slice a l.length cap] 30)).alloc (.cells #[.int .i64 kk, .int .i64 nn, .string ss', .slice a' l'.length cap'] 30)).cell? ⟨w.heap.size + 1, 3, none⟩ = some (.slice a' l'.length cap') := by
      have h0 := heap_alloc_new (w.alloc (.cells #[.int .i64 kk, .int .i64 nn, .string ss, .slice a l.length cap] 30)) (.cells #[.int .i64 kk, .int .i64 nn, .string ss', .slice a' l'.length cap'] 30)
      have h1 : (w.alloc (.cells #[.int .i64 kk, .int .i64 nn, .string ss, .slice a l.length cap] 30)).heap.size = w.heap.size + 1 := by simp
      rw [h1] at h0
      rw [cell_of_row _ _ 3 _ _ _ h0]
      rfl
    have D1 : ((w.alloc (.cells #[.int .i64 kk, .int .i64 nn, .string ss, .slice a l.length cap] 30)).alloc (.cells #[.int .i64 kk, .int .i64 nn, .string ss', .slice a' l'.length cap'] 30)).cell? ⟨w.heap.size, 3, none⟩ = some (.slice a l.length cap) := by
      have h0 := ((Fr.refl (fun _ => False) (w.alloc (.cells #[.int .i64 kk, .int .i64 nn, .string ss, .slice a l.length cap] 30))).alloc (.cells #[.int .i64 kk, .int .i64 nn, .string ss', .slice a' l'.length cap'] 30)).heap (heap_alloc_new w (.cells #[.int .i64 kk, .int .i64 nn, .string ss, .slice a l.length cap] 30)) not_false
      rw [cell_of_row _ _ 3 _ _ _ h0]
      rfl
    have HD0 := hid D0; have HD1 := hid D1
    clear hb hi hs hN h hn hb' hi' h' hn' hc' hm' hkl hkl' hF D0 D1
    go_enter Try.func57, Try.ntmps57
    go_wp2_with fail
    refine HCS.out.mono ?_
    rintro e w2 ⟨rfl, rfl⟩
    generalize ((w.alloc (.cells #[.int .i64 kk, .int .i64 nn, .string ss, .slice a l.length cap] 30)).alloc (.cells #[.int .i64 kk, .int .i64 nn, .string ss', .slice a' l'.length cap'] 30)) = W at *
    have d1 := HD1.out
    go_wp2_with fail
    clear HCS q1 d1
    go_loopw [43] (fun i wr => ∃ k : Nat, k ≤ l.length ∧ k ≤ l'.length ∧ i = .int .i64 k ∧ Fr (fun _ => False) W wr ∧ Hid (cmpL l l' = cmpL (l.drop k) (l'.drop k))) (fun i _ => l.length - (intOf i).toNat)
    case atStart => exact ⟨0, Nat.zero_le _, Nat.zero_le _, rfl, Fr.refl _ _, hid rfl⟩
    case round =>
      obtain ⟨k, hk, hk', rfl, hf, HTK⟩ := hrel
      by_cases hlt : k < l.length
      · obtain ⟨b, o, y, a2, c2, rfl, -, hy, hv, e0, e1, e2, e3⟩ := VL.elem HB.out HI.out k hlt
        have hdr : l.drop k = y :: l.drop (k + 1) := by
          rw [List.drop_eq_getElem_cons hlt]
          have hy := hy
          rw [List.getElem?_eq_getElem hlt] at hy
          rw [Option.some.inj hy]
        have hf0 := HF0.out.trans' hf
        replace e0 := hf0.cell e0 not_false
        replace e1 := hf0.cell e1 not_false
        replace e2 := hf0.cell e2 not_false
        replace e3 := hf0.cell e3 not_false
        have hfa := (Fr.refl (fun _ => False) wr).alloc (.cells #[.int .i64 y.k, .int .i64 y.n, .string y.s, .slice a2 y.l.length c2] 30)
        have d0 := hf.cell HD0.out not_false
        have d0' := hfa.cell d0 not_false
        have HF1 := hid (hf0.trans' hfa)
        by_cases hlt' : k < l'.length
        · obtain ⟨b', o', y', a2', c2', rfl, -, hy', hv', f0, f1, f2, f3⟩ := VL.elem HB'.out HI'.out k hlt'
          have hdr' : l'.drop k = y' :: l'.drop (k + 1) := by
            rw [List.drop_eq_getElem_cons hlt']
            have hy' := hy'
            rw [List.getElem?_eq_getElem hlt'] at hy'
            rw [Option.some.inj hy']
          have t2 := sizeL_mem hy
          have hy1 : y.size ≤ N := by have := HS.out; have := HN.out; omega
          have hc := ih y y' hy1 (krL_mem HKL.out hy) (krL_mem HKL'.out hy') D E
          have hstep : cmpL l l' = if cmpV y y' ≠ 0 then cmpV y y' else cmpL (l.drop (k + 1)) (l'.drop (k + 1)) := by rw [HTK.out, hdr, hdr', cmpL]
          have hne : ¬ (k : Int) = l'.length := by omega
          generalize cmpV y y' = r at *
          have HFr := hid hf; have HV := hid hv; have HV' := hid hv'; have HC := hid hc; have HST := hid hstep
          have G0 := hid f0; have G1 := hid f1; have G2 := hid f2; have G3 := hid f3; have HFw := hid hf0
          clear hf hv hv' hc hy' f0 f1 f2 f3 hf0 t2 hy1 hy hdr hdr' hstep hfa HTK
          go_upto_region 15 with fail
          have hb6 : (wr.alloc (.cells #[.int .i64 y.k, .int .i64 y.n, .string y.s, .slice a2 y.l.length c2] 30)).heap[wr.heap.size]? = some (.cells #[.int .i64 y.k, .int .i64 y.n, .string y.s, .slice a2 y.l.length c2] 30) := heap_alloc_new wr _
          have K : Fr (fun _ => False) wr (wr.alloc (.cells #[.int .i64 y.k, .int .i64 y.n, .string y.s, .slice a2 y.l.length c2] 30)) := (Fr.refl _ _).alloc _
          have FW := hid (HFr.out.trans' K)
          have FX := hid (HFw.out.trans' K)
          clear K e0 e1 e2 e3 d0 d0'
          generalize wr.alloc (.cells #[.int .i64 y.k, .int .i64 y.n, .string y.s, .slice a2 y.l.length c2] 30) = W0 at *
          refine wp_region_cls (fun w' => Fr (fun _ => False) W0 w') (by kernel_rfl) (by kernel_rfl) (Fr.refl _ _).drew ?_
          (refine q_load (by kernel_rfl) rfl rfl (fun w' hw => Fr.heap hw hb6 not_false) (by kernel_rfl) (by kernel_rfl) ?_; (try simp only [Act.put, List.setIfInBounds_toArray, List.set_cons_zero, List.set_cons_succ]))
          (refine q_take ?_ (by kernel_rfl) ?_ ?_; rotate_left; (· intro w' hS; go_simp; try with_reducible rfl); (try simp only [Act.put, List.setIfInBounds_toArray, List.set_cons_zero, List.set_cons_succ]))
          (refine q_take ?_ (by kernel_rfl) ?_ ?_; rotate_left; (· intro w' hS; have dd := (FW.out.trans' hS).cell HD0.out not_false; go_simp; try with_reducible rfl); try simp only [Act.put, List.setIfInBounds_toArray, List.set_cons_zero, List.set_cons_succ])
          (refine q_take ?_ (by kernel_rfl) ?_ ?_; rotate_left; (· intro w' hS; go_simp; try with_reducible rfl); (try simp only [Act.put, List.setIfInBounds_toArray, List.set_cons_zero, List.set_cons_succ]))
          (refine q_take ?_ (by kernel_rfl) ?_ ?_; rotate_left; (· intro w' hS; go_simp; try with_reducible rfl); (try simp only [Act.put, List.setIfInBounds_toArray, List.set_cons_zero, List.set_cons_succ]))
          (refine q_take ?_ (by kernel_rfl) ?_ ?_; rotate_left; (· intro w' hS; have d0 := (FX.out.trans' hS).cell G0.out not_false; have d1 := (FX.out.trans' hS).cell G1.out not_false; have d2 := (FX.out.trans' hS).cell G2.out not_false; have d3 := (FX.out.trans' hS).cell G3.out not_false; go_simp; try with_reducible rfl); try simp only [Act.put, List.setIfInBounds_toArray, List.set_cons_zero, List.set_cons_succ])
          (refine q_call ?_ ?_ (by kernel_rfl) ?_ ?_; rotate_left 2; (· intro w' hS; go_simp; first | with_reducible rfl | (constructor <;> with_reducible rfl)); (refine ⟨_, fun w' hw => (HC.out w' _ _ (HV.out.frame (FX.out.trans' hw) (fun _ _ => id)) (HV'.out.frame (FX.out.trans' hw) (fun _ _ => id))).mono fun _ _ h => ⟨h.1, hw.trans' h.2⟩, ?_⟩); (try simp only [Act.put, List.setIfInBounds_toArray, List.set_cons_zero, List.set_cons_succ]))
          (refine q_take ?_ (by kernel_rfl) ?_ ?_; rotate_left; (· intro w' hS; go_simp; try with_reducible rfl); (try simp only [Act.put, List.setIfInBounds_toArray, List.set_cons_zero, List.set_cons_succ]))
          refine q_end (fun w' hw => ?_)
          have HE := hid (FW.out.trans' hw)
          clear hw
          by_cases hr : r ≠ 0
          · have hr' : (r != 0) = true := by simpa using hr
            have HRES := hid (show cmpL l l' = r by rw [HST.out, if_pos hr])
            clear hr
            go_wp2
            go_ret
            exact ⟨ret_int HRES.out.symm, HF0.out.trans' HE.out⟩
          · obtain rfl : r = 0 := by simpa using hr
            have HRES := hid (show cmpL l l' = cmpL (l.drop (k + 1)) (l'.drop (k + 1)) by rw [HST.out, if_neg (by simp)])
            clear hr
            go_wp2
            go_roundw
            case rel => exact ⟨k + 1, by omega, by omega, by go_num, HE.out, HRES⟩
            case measure => simp [intOf]; omega
        · obtain rfl : k = l'.length := by omega
          have HRES := hid (show cmpL l l' = 1 by rw [HTK.out, hdr, List.drop_length, cmpL])
          clear hf hv hy hdr hf0 hfa
          go_wp2
          go_ret
          exact ⟨ret_int HRES.out.symm, HF1.out⟩
      · obtain rfl : k = l.length := by omega
        have hres : cmpL l l' = (l.length : Int) - l'.length := by
          rw [HTK.out, List.drop_length, cmpL, List.length_drop]
          omega
        have d0 := hf.cell HD0.out not_false
        have d1 := hf.cell HD1.out not_false
        have q2 : IntKind.i64.wrap ((l.length : Int) - l'.length) = (l.length : Int) - l'.length := IntWalk.i64_in _ (by omega)
        have HRES := hid hres; have HFr := hid hf
        clear hres hf
        go_wp2
        go_ret
        exact ⟨ret_int HRES.out.symm, HF0.out.trans' HFr.out⟩

theorem vless_any (x y : V) (hkx : x.kr) (hky : y.kr) (D E : Nat → Prop) (w : World) (u u' : Array Value) (h : VIn D w x u) (h' : VIn E w y u') :
    Calls Try.prog 39 #[.agg u, .agg u'] w fun e w' => e = .returned (.bool (decide (cmpV x y < 0))) ∧ Fr (fun _ => False) w w' := by
  obtain ⟨v1, rfl, a1, c1, us1, rfl, -⟩ := h.open
  obtain ⟨v2, rfl, a2, c2, us2, rfl, -⟩ := h'.open
  have hF : Fr (fun _ => False) w ((w.alloc (.cells #[.int .i64 x.k, .int .i64 x.n, .string x.s, .slice a1 x.l.length c1] 30)).alloc (.cells #[.int .i64 y.k, .int .i64 y.n, .string y.s, .slice a2 y.l.length c2] 30)) := ((Fr.refl _ _).alloc _).alloc _
  have HC := hid (vcmp_any x.size x y (Nat.le_refl _) hkx hky D E _ _ _ (h.frame hF fun _ _ => id) (h'.frame hF fun _ _ => id)); have HF := hid hF
  clear h h' hF hkx hky
  generalize cmpV x y = r at *
  go_enter Try.func39, Try.ntmps39
  go_wp2_with fail
  refine HC.out.mono ?_
  rintro e w2 ⟨rfl, hf2⟩
  have HF2 := hid (HF.out.trans' hf2)
  clear hf2
  go_wp2_with fail
  go_ret
  exact ⟨rfl, HF2.out⟩
end Go.Proofs.Ytebanmigaikhhaa
