/- val.Same: two values are the same, or not. -/
import Derived.Test.YtebanmigaikhhaaValSize
namespace Go.Proofs.Ytebanmigaikhhaa
open Go.RowKit

/-- The same? -/
noncomputable def V.same (x y : V) : Bool := @decide (x = y) (Classical.propDecidable _)
theorem V.same_eq {x y : V} : V.same x y = true ↔ x = y := by unfold V.same; exact @decide_eq_true_iff _ (Classical.propDecidable _)
theorem V.same_refl (x : V) : V.same x x = true := V.same_eq.2 rfl
theorem V.same_ne {x y : V} (h : x ≠ y) : V.same x y = false := Bool.eq_false_iff.2 fun e => h (V.same_eq.1 e)
theorem V.eta (x : V) : x = .mk x.k x.n x.s x.l := by cases x; rfl
theorem V.ext' {x y : V} (h0 : x.k = y.k) (h1 : x.n = y.n) (h2 : x.s = y.s) (h3 : x.l = y.l) : x = y := by rw [V.eta x, V.eta y, h0, h1, h2, h3]
theorem ba_toList_inj {s t : ByteArray} (h : s.toList = t.toList) : s = t := by
  have := congrArg List.toArray h
  cases s; cases t
  simpa [ByteArray.toList_eq] using this

set_option maxHeartbeats 1600000 in
theorem vsame_any : ∀ (N : Nat) (x y : V), x.size ≤ N → ∀ (D E : Nat → Prop) (w : World) (u u' : Array Value), VIn D w x u → VIn E w y u' →
    Calls Try.prog 25 #[.agg u, .agg u'] w fun e w' => e = .returned (.bool (V.same x y)) ∧ Fr (fun _ => False) w w' := by
  intro N
  induction N with
  | zero =>
    intro x y h
    rw [V.size_eq] at h
    omega
  | succ N ih =>
    intro x y hN D E w u u' h h'
    have hs := V.size_eq x
    obtain ⟨v, rfl, a, cap, us, rfl, hc, hm, hn, hb, hi⟩ := h.open
    obtain ⟨v', rfl, a', cap', us', rfl, hc', hm', hn', hb', hi'⟩ := h'.open
    have hlm : x.l.length ≤ 9223372036854775807 := Nat.le_trans hc hm
    have hlm' : y.l.length ≤ 9223372036854775807 := Nat.le_trans hc' hm'
    have hF : Fr (fun _ => False) w ((w.alloc (.cells #[.int .i64 x.k, .int .i64 x.n, .string x.s, .slice a x.l.length cap] 30)).alloc (.cells #[.int .i64 y.k, .int .i64 y.n, .string y.s, .slice a' y.l.length cap'] 30)) := ((Fr.refl _ _).alloc _).alloc _
    by_cases hk : x.k = y.k
    rotate_left
    · have hz := V.same_ne (x := x) (y := y) (fun e => hk (by rw [e]))
      have q1 : (x.k != y.k) = true := by simpa using hk
      rw [hz]
      have HF := hid hF
      clear hb hi hb' hi' h h' hn hn' hN hs hz hk hF
      go_enter Try.func25, Try.ntmps25
      go_wp2
      go_ret
      exact ⟨rfl, HF.out⟩
    by_cases hnn : x.n = y.n
    rotate_left
    · have hz := V.same_ne (x := x) (y := y) (fun e => hnn (by rw [e]))
      have q1 : (x.k != y.k) = false := by simpa using hk
      have q2 : (x.n != y.n) = true := by simpa using hnn
      rw [hz]
      have HF := hid hF
      clear hb hi hb' hi' h h' hn hn' hN hs hz hk hF hnn
      go_enter Try.func25, Try.ntmps25
      go_wp2
      go_ret
      exact ⟨rfl, HF.out⟩
    by_cases hss : x.s = y.s
    rotate_left
    · have hz := V.same_ne (x := x) (y := y) (fun e => hss (by rw [e]))
      have q1 : (x.k != y.k) = false := by simpa using hk
      have q2 : (x.n != y.n) = false := by simpa using hnn
      have q3 : ¬ x.s.toList = y.s.toList := fun e => hss (ba_toList_inj e)
      rw [hz]
      have HF := hid hF
      clear hb hi hb' hi' h h' hn hn' hN hs hz hk hF hnn hss
      go_enter Try.func25, Try.ntmps25
      go_wp2
      go_ret
      exact ⟨rfl, HF.out⟩
    by_cases hll : x.l.length = y.l.length
    rotate_left
    · have hz := V.same_ne (x := x) (y := y) (fun e => hll (by rw [e]))
      have q1 : (x.k != y.k) = false := by simpa using hk
      have q2 : (x.n != y.n) = false := by simpa using hnn
      have q3 : x.s.toList = y.s.toList := by rw [hss]
      have q4 : ((x.l.length : Int) != (y.l.length : Int)) = true := by simp; omega
      rw [hz]
      have HF := hid hF
      clear hb hi hb' hi' h h' hn hn' hN hs hz hk hF hnn hss hll
      go_enter Try.func25, Try.ntmps25
      go_wp2
      go_ret
      exact ⟨rfl, HF.out⟩
    have hres : V.same x y = V.same (.mk 0 0 ⟨#[]⟩ x.l) (.mk 0 0 ⟨#[]⟩ y.l) := by
      by_cases e : x.l = y.l
      · rw [V.same_eq.2 (V.ext' hk hnn hss e), e, V.same_refl]
      · rw [V.same_ne (fun h => e (by rw [h])), V.same_ne (fun h => e (by injection h))]
    rw [hres]
    clear hres hF
    have HLL := hid hll
    rw [← hk, ← hnn, ← hss, ← hll]
    clear hk hnn hss
    generalize x.k = kk at *
    generalize x.n = nn at *
    generalize x.s = ss at *
    generalize x.l = l at *
    generalize y.l = l' at *
    have q1 : (kk != kk) = false := by simp
    have q2 : (nn != nn) = false := by simp
    have q3 : (ss.toList != ss.toList) = false := by simp
    have q4 : ((l.length : Int) != (l.length : Int)) = false := by simp
    have HB := hid hb; have HI := hid hi; have HS := hid hs; have HN := hid hN
    have HB' := hid hb'; have HI' := hid hi'
    clear hb hi hs hN h hn hb' hi' h' hn' hc' hm' hll hlm'
    go_enter Try.func25, Try.ntmps25
    go_wp2
    have D0 : ((w.alloc (.cells #[.int .i64 kk, .int .i64 nn, .string ss, .slice a l.length cap] 30)).alloc (.cells #[.int .i64 kk, .int .i64 nn, .string ss, .slice a' l.length cap'] 30)).cell? ⟨w.heap.size + 1, 3, none⟩ = some (.slice a' l.length cap') := by
      have h0 := heap_alloc_new (w.alloc (.cells #[.int .i64 kk, .int .i64 nn, .string ss, .slice a l.length cap] 30)) (.cells #[.int .i64 kk, .int .i64 nn, .string ss, .slice a' l.length cap'] 30)
      have h1 : (w.alloc (.cells #[.int .i64 kk, .int .i64 nn, .string ss, .slice a l.length cap] 30)).heap.size = w.heap.size + 1 := by simp
      rw [h1] at h0
      rw [cell_of_row _ _ 3 _ _ _ h0]
      rfl
    have hF : Fr (fun _ => False) w ((w.alloc (.cells #[.int .i64 kk, .int .i64 nn, .string ss, .slice a l.length cap] 30)).alloc (.cells #[.int .i64 kk, .int .i64 nn, .string ss, .slice a' l.length cap'] 30)) := ((Fr.refl _ _).alloc _).alloc _
    generalize (w.alloc (.cells #[.int .i64 kk, .int .i64 nn, .string ss, .slice a l.length cap] 30)).alloc (.cells #[.int .i64 kk, .int .i64 nn, .string ss, .slice a' l.length cap'] 30) = W at *
    have HD0 := hid D0; have HF0 := hid hF
    clear D0 hF q1 q2 q3 q4
    go_loopw [38] (fun i wr => ∃ k : Nat, k ≤ l.length ∧ i = .int .i64 k ∧ Fr (fun _ => False) W wr ∧ l.take k = l'.take k) (fun i _ => l.length - (intOf i).toNat)
    case atStart => exact ⟨0, Nat.zero_le _, rfl, Fr.refl _ _, rfl⟩
    case round =>
      obtain ⟨k, hk, rfl, hf, htk⟩ := hrel
      have HTK := hid htk
      clear htk
      by_cases hlt : k < l.length
      · obtain ⟨b, o, y, a2, c2, rfl, -, hy, hv, e0, e1, e2, e3⟩ := VL.elem HB.out HI.out k hlt
        obtain ⟨b', o', y', a2', c2', rfl, -, hy', hv', f0, f1, f2, f3⟩ := VL.elem HB'.out HI'.out k (by have := HLL.out; omega)
        have HY := hid hy; have HY' := hid hy'
        have hf0 := HF0.out.trans' hf
        replace e0 := hf0.cell e0 not_false
        replace e1 := hf0.cell e1 not_false
        replace e2 := hf0.cell e2 not_false
        replace e3 := hf0.cell e3 not_false
        have t2 := sizeL_mem hy
        have hy1 : y.size ≤ N := by have := HS.out; have := HN.out; omega
        have hc := ih y y' hy1 D E
        clear t2 hy1 hy
        have HFr := hid hf; have HV := hid hv; have HV' := hid hv'; have HC := hid hc
        have G0 := hid f0; have G1 := hid f1; have G2 := hid f2; have G3 := hid f3; have HFw := hid hf0
        clear hf hv hv' hc hy' f0 f1 f2 f3 hf0
        by_cases hsm : V.same y y' = true
        rotate_left
        · rw [Bool.eq_false_iff.2 hsm] at HC
          have hne := V.same_ne (x := .mk 0 0 ⟨#[]⟩ l) (y := .mk 0 0 ⟨#[]⟩ l') (fun e => hsm (V.same_eq.2 (by injection e with _ _ _ e; have h1 := HY.out; have h2 := HY'.out; rw [e, h2] at h1; exact (Option.some.inj h1).symm)))
          have HNE := hid hne
          clear hsm hne
          go_upto_region 6 with fail
          have hb6 : (wr.alloc (.cells #[.int .i64 y.k, .int .i64 y.n, .string y.s, .slice a2 y.l.length c2] 30)).heap[wr.heap.size]? = some (.cells #[.int .i64 y.k, .int .i64 y.n, .string y.s, .slice a2 y.l.length c2] 30) := heap_alloc_new wr _
          have K : Fr (fun _ => False) wr (wr.alloc (.cells #[.int .i64 y.k, .int .i64 y.n, .string y.s, .slice a2 y.l.length c2] 30)) := (Fr.refl _ _).alloc _
          have FW := hid (HFr.out.trans' K)
          have FX := hid (HFw.out.trans' K)
          clear K e0 e1 e2 e3
          generalize wr.alloc (.cells #[.int .i64 y.k, .int .i64 y.n, .string y.s, .slice a2 y.l.length c2] 30) = W0 at *
          refine wp_region_cls (fun w' => Fr (fun _ => False) W0 w') (by kernel_rfl) (by kernel_rfl) (Fr.refl _ _).drew ?_
          (refine q_load (by kernel_rfl) rfl rfl (fun w' hw => Fr.heap hw hb6 not_false) (by kernel_rfl) (by kernel_rfl) ?_; (try simp only [Act.put, List.setIfInBounds_toArray, List.set_cons_zero, List.set_cons_succ]))
          (refine q_take ?_ (by kernel_rfl) ?_ ?_; rotate_left; (· intro w' hS; go_simp; try with_reducible rfl); (try simp only [Act.put, List.setIfInBounds_toArray, List.set_cons_zero, List.set_cons_succ]))
          (refine q_take ?_ (by kernel_rfl) ?_ ?_; rotate_left; (· intro w' hS; have dd := (FW.out.trans' hS).cell HD0.out not_false; go_simp; try with_reducible rfl); try simp only [Act.put, List.setIfInBounds_toArray, List.set_cons_zero, List.set_cons_succ])
          (refine q_take ?_ (by kernel_rfl) ?_ ?_; rotate_left; (· intro w' hS; go_simp; try with_reducible rfl); (try simp only [Act.put, List.setIfInBounds_toArray, List.set_cons_zero, List.set_cons_succ]))
          (refine q_take ?_ (by kernel_rfl) ?_ ?_; rotate_left; (· intro w' hS; go_simp; try with_reducible rfl); (try simp only [Act.put, List.setIfInBounds_toArray, List.set_cons_zero, List.set_cons_succ]))
          (refine q_take ?_ (by kernel_rfl) ?_ ?_; rotate_left; (· intro w' hS; have d0 := (FX.out.trans' hS).cell G0.out not_false; have d1 := (FX.out.trans' hS).cell G1.out not_false; have d2 := (FX.out.trans' hS).cell G2.out not_false; have d3 := (FX.out.trans' hS).cell G3.out not_false; go_simp; try with_reducible rfl); try simp only [Act.put, List.setIfInBounds_toArray, List.set_cons_zero, List.set_cons_succ])
          (refine q_call ?_ ?_ (by kernel_rfl) ?_ ?_; rotate_left 2; (· intro w' hS; go_simp; first | with_reducible rfl | (constructor <;> with_reducible rfl)); (refine ⟨_, fun w' hw => (HC.out w' _ _ (HV.out.frame (FX.out.trans' hw) (fun _ _ => id)) (HV'.out.frame (FX.out.trans' hw) (fun _ _ => id))).mono fun _ _ h => ⟨h.1, hw.trans' h.2⟩, ?_⟩); (try simp only [Act.put, List.setIfInBounds_toArray, List.set_cons_zero, List.set_cons_succ]))
          (refine q_take ?_ (by kernel_rfl) ?_ ?_; rotate_left; (· intro w' hS; go_simp; try with_reducible rfl); (try simp only [Act.put, List.setIfInBounds_toArray, List.set_cons_zero, List.set_cons_succ]))
          refine q_end (fun w' hw => ?_)
          have HE := hid (FW.out.trans' hw)
          clear hw
          go_wp2
          go_ret
          exact ⟨ret_bool HNE.out.symm, HF0.out.trans' HE.out⟩
        rw [hsm] at HC
        have HYY := hid (V.same_eq.1 hsm)
        clear hsm
        go_upto_region 6 with fail
        have hb6 : (wr.alloc (.cells #[.int .i64 y.k, .int .i64 y.n, .string y.s, .slice a2 y.l.length c2] 30)).heap[wr.heap.size]? = some (.cells #[.int .i64 y.k, .int .i64 y.n, .string y.s, .slice a2 y.l.length c2] 30) := heap_alloc_new wr _
        have K : Fr (fun _ => False) wr (wr.alloc (.cells #[.int .i64 y.k, .int .i64 y.n, .string y.s, .slice a2 y.l.length c2] 30)) := (Fr.refl _ _).alloc _
        have FW := hid (HFr.out.trans' K)
        have FX := hid (HFw.out.trans' K)
        clear K e0 e1 e2 e3
        generalize wr.alloc (.cells #[.int .i64 y.k, .int .i64 y.n, .string y.s, .slice a2 y.l.length c2] 30) = W0 at *
        refine wp_region_cls (fun w' => Fr (fun _ => False) W0 w') (by kernel_rfl) (by kernel_rfl) (Fr.refl _ _).drew ?_
        (refine q_load (by kernel_rfl) rfl rfl (fun w' hw => Fr.heap hw hb6 not_false) (by kernel_rfl) (by kernel_rfl) ?_; (try simp only [Act.put, List.setIfInBounds_toArray, List.set_cons_zero, List.set_cons_succ]))
        (refine q_take ?_ (by kernel_rfl) ?_ ?_; rotate_left; (· intro w' hS; go_simp; try with_reducible rfl); (try simp only [Act.put, List.setIfInBounds_toArray, List.set_cons_zero, List.set_cons_succ]))
        (refine q_take ?_ (by kernel_rfl) ?_ ?_; rotate_left; (· intro w' hS; have dd := (FW.out.trans' hS).cell HD0.out not_false; go_simp; try with_reducible rfl); try simp only [Act.put, List.setIfInBounds_toArray, List.set_cons_zero, List.set_cons_succ])
        (refine q_take ?_ (by kernel_rfl) ?_ ?_; rotate_left; (· intro w' hS; go_simp; try with_reducible rfl); (try simp only [Act.put, List.setIfInBounds_toArray, List.set_cons_zero, List.set_cons_succ]))
        (refine q_take ?_ (by kernel_rfl) ?_ ?_; rotate_left; (· intro w' hS; go_simp; try with_reducible rfl); (try simp only [Act.put, List.setIfInBounds_toArray, List.set_cons_zero, List.set_cons_succ]))
        (refine q_take ?_ (by kernel_rfl) ?_ ?_; rotate_left; (· intro w' hS; have d0 := (FX.out.trans' hS).cell G0.out not_false; have d1 := (FX.out.trans' hS).cell G1.out not_false; have d2 := (FX.out.trans' hS).cell G2.out not_false; have d3 := (FX.out.trans' hS).cell G3.out not_false; go_simp; try with_reducible rfl); try simp only [Act.put, List.setIfInBounds_toArray, List.set_cons_zero, List.set_cons_succ])
        (refine q_call ?_ ?_ (by kernel_rfl) ?_ ?_; rotate_left 2; (· intro w' hS; go_simp; first | with_reducible rfl | (constructor <;> with_reducible rfl)); (refine ⟨_, fun w' hw => (HC.out w' _ _ (HV.out.frame (FX.out.trans' hw) (fun _ _ => id)) (HV'.out.frame (FX.out.trans' hw) (fun _ _ => id))).mono fun _ _ h => ⟨h.1, hw.trans' h.2⟩, ?_⟩); (try simp only [Act.put, List.setIfInBounds_toArray, List.set_cons_zero, List.set_cons_succ]))
        (refine q_take ?_ (by kernel_rfl) ?_ ?_; rotate_left; (· intro w' hS; go_simp; try with_reducible rfl); (try simp only [Act.put, List.setIfInBounds_toArray, List.set_cons_zero, List.set_cons_succ]))
        refine q_end (fun w' hw => ?_)
        have HE := hid (FW.out.trans' hw)
        clear hw
        go_wp2
        go_roundw
        case rel => exact ⟨k + 1, by omega, by go_num, HE.out, by rw [List.take_add_one, List.take_add_one, HTK.out, HY.out, HY'.out, HYY.out]⟩
        case measure => simp [intOf]; omega
      · have e : l = l' := by
          have h1 := HTK.out
          have h2 := HLL.out
          rwa [List.take_of_length_le (by omega), List.take_of_length_le (by omega)] at h1
        have HSE := hid (show V.same (.mk 0 0 ⟨#[]⟩ l) (.mk 0 0 ⟨#[]⟩ l') = true by rw [e]; exact V.same_refl _)
        have HFr := hid hf
        clear e hf
        go_wp2
        go_ret
        exact ⟨ret_bool HSE.out.symm, HF0.out.trans' HFr.out⟩
end Go.Proofs.Ytebanmigaikhhaa
