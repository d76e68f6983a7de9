/- val.Same: two values that are the same. -/
import Derived.Test.YtebanmigaikhhaaValSize
namespace Go.Proofs.Ytebanmigaikhhaa
open Go.RowKit

set_option maxHeartbeats 1600000 in
theorem vsame_refl : ∀ (N : Nat) (x : V), x.size ≤ N → ∀ (D E : Nat → Prop) (w : World) (u u' : Array Value), VIn D w x u → VIn E w x u' →
    Calls Try.prog 25 #[.agg u, .agg u'] w fun e w' => e = .returned (.bool true) ∧ Fr (fun _ => False) w w' := by
  intro N
  induction N with
  | zero =>
    intro x h
    rw [V.size_eq] at h
    omega
  | succ N ih =>
    intro x hN D E w u u' h h'
    have hs := V.size_eq x
    obtain ⟨v, rfl, a, cap, us, rfl, hc, hm, hn, hb, hi⟩ := h.open
    obtain ⟨v', rfl, a', cap', us', rfl, hc', hm', hn', hb', hi'⟩ := h'.open
    have hlm : x.l.length ≤ 9223372036854775807 := Nat.le_trans hc hm
    generalize x.k = kk at *
    generalize x.n = nn at *
    generalize x.s = ss at *
    generalize x.l = l at *
    have q1 : (kk != kk) = false := by simp
    have q2 : (nn != nn) = false := by simp
    have q3 : (ss.toList != ss.toList) = false := by simp
    have q4 : ((l.length : Int) != (l.length : Int)) = false := by simp
    have HB := hid hb; have HI := hid hi; have HS := hid hs; have HN := hid hN
    have HB' := hid hb'; have HI' := hid hi'
    clear hb hi hs hN h hn hb' hi' h' hn' hc' hm'
    go_enter Try.func25, Try.ntmps25
    go_wp2
    have D0 : ((w.alloc (.cells #[.int .i64 kk, .int .i64 nn, .string ss, .slice a l.length cap] 30)).alloc (.cells #[.int .i64 kk, .int .i64 nn, .string ss, .slice a' l.length cap'] 30)).cell? ⟨w.heap.size + 1, 3, none⟩ = some (.slice a' l.length cap') := by
      have h0 := heap_alloc_new (w.alloc (.cells #[.int .i64 kk, .int .i64 nn, .string ss, .slice a l.length cap] 30)) (.cells #[.int .i64 kk, .int .i64 nn, .string ss, .slice a' l.length cap'] 30)
      have h1 : (w.alloc (.cells #[.int .i64 kk, .int .i64 nn, .string ss, .slice a l.length cap] 30)).heap.size = w.heap.size + 1 := by simp
      rw [h1] at h0
      rw [cell_of_row _ _ 3 _ _ _ h0]
      rfl
    have hF : Fr (fun _ => False) w ((w.alloc (.cells #[.int .i64 kk, .int .i64 nn, .string ss, .slice a l.length cap] 30)).alloc (.cells #[.int .i64 kk, .int .i64 nn, .string ss, .slice a' l.length cap'] 30)) := ((Fr.refl _ _).alloc _).alloc _
    generalize (w.alloc (.cells #[.int .i64 kk, .int .i64 nn, .string ss, .slice a l.length cap] 30)).alloc (.cells #[.int .i64 kk, .int .i64 nn, .string ss, .slice a' l.length cap'] 30) = W at *
    have HD0 := hid D0; have HF0 := hid hF
    clear D0 hF q1 q2 q3 q4
    go_loopw [38] (fun i wr => ∃ k : Nat, k ≤ l.length ∧ i = .int .i64 k ∧ Fr (fun _ => False) W wr) (fun i _ => l.length - (intOf i).toNat)
    case atStart => exact ⟨0, Nat.zero_le _, rfl, Fr.refl _ _⟩
    case round =>
      obtain ⟨k, hk, rfl, hf⟩ := hrel
      by_cases hlt : k < l.length
      · obtain ⟨b, o, y, a2, c2, rfl, -, hy, hv, e0, e1, e2, e3⟩ := VL.elem HB.out HI.out k hlt
        obtain ⟨b', o', y', a2', c2', rfl, -, hy', hv', f0, f1, f2, f3⟩ := VL.elem HB'.out HI'.out k hlt
        rw [hy] at hy'
        obtain rfl := Option.some.inj hy'
        have hf0 := HF0.out.trans' hf
        replace e0 := hf0.cell e0 not_false
        replace e1 := hf0.cell e1 not_false
        replace e2 := hf0.cell e2 not_false
        replace e3 := hf0.cell e3 not_false
        have t2 := sizeL_mem hy
        have hy1 : y.size ≤ N := by have := HS.out; have := HN.out; omega
        have hc := ih y hy1 D E
        clear t2 hy1 hy
        have HFr := hid hf; have HV := hid hv; have HV' := hid hv'; have HC := hid hc
        have G0 := hid f0; have G1 := hid f1; have G2 := hid f2; have G3 := hid f3; have HFw := hid hf0
        clear hf hv hv' hc hy' f0 f1 f2 f3 hf0
        go_upto_region 6 with fail
        have hb6 : (wr.alloc (.cells #[.int .i64 y.k, .int .i64 y.n, .string y.s, .slice a2 y.l.length c2] 30)).heap[wr.heap.size]? = some (.cells #[.int .i64 y.k, .int .i64 y.n, .string y.s, .slice a2 y.l.length c2] 30) := heap_alloc_new wr _
        have K : Fr (fun _ => False) wr (wr.alloc (.cells #[.int .i64 y.k, .int .i64 y.n, .string y.s, .slice a2 y.l.length c2] 30)) := (Fr.refl _ _).alloc _
        have FW := hid (HFr.out.trans' K)
        have FX := hid (HFw.out.trans' K)
        clear K e0 e1 e2 e3
        generalize wr.alloc (.cells #[.int .i64 y.k, .int .i64 y.n, .string y.s, .slice a2 y.l.length c2] 30) = W0 at *
        refine wp_region_cls (fun w' => Fr (fun _ => False) W0 w') (by kernel_rfl) (by kernel_rfl) (Fr.refl _ _).drew ?_
        (refine q_load (by kernel_rfl) rfl rfl (fun w' hw => Fr.heap hw hb6 not_false) (by kernel_rfl) (by kernel_rfl) ?_; (try simp only [Act.put, List.setIfInBounds_toArray, List.set_cons_zero, List.set_cons_succ]))
        (refine q_take ?_ (by kernel_rfl) ?_ ?_; rotate_left; (· intro w' hS; go_simp; try with_reducible rfl); (try simp only [Act.put, List.setIfInBounds_toArray, List.set_cons_zero, List.set_cons_succ]))
        (refine q_take ?_ (by kernel_rfl) ?_ ?_; rotate_left; (· intro w' hS; have dd := (FW.out.trans' hS).cell HD0.out not_false; go_simp; try with_reducible rfl); try simp only [Act.put, List.setIfInBounds_toArray, List.set_cons_zero, List.set_cons_succ])
        (refine q_take ?_ (by kernel_rfl) ?_ ?_; rotate_left; (· intro w' hS; go_simp; try with_reducible rfl); (try simp only [Act.put, List.setIfInBounds_toArray, List.set_cons_zero, List.set_cons_succ]))
        (refine q_take ?_ (by kernel_rfl) ?_ ?_; rotate_left; (· intro w' hS; go_simp; try with_reducible rfl); (try simp only [Act.put, List.setIfInBounds_toArray, List.set_cons_zero, List.set_cons_succ]))
        (refine q_take ?_ (by kernel_rfl) ?_ ?_; rotate_left; (· intro w' hS; have d0 := (FX.out.trans' hS).cell G0.out not_false; have d1 := (FX.out.trans' hS).cell G1.out not_false; have d2 := (FX.out.trans' hS).cell G2.out not_false; have d3 := (FX.out.trans' hS).cell G3.out not_false; go_simp; try with_reducible rfl); try simp only [Act.put, List.setIfInBounds_toArray, List.set_cons_zero, List.set_cons_succ])
        (refine q_call ?_ ?_ (by kernel_rfl) ?_ ?_; rotate_left 2; (· intro w' hS; go_simp; first | with_reducible rfl | (constructor <;> with_reducible rfl)); (refine ⟨_, fun w' hw => (HC.out w' _ _ (HV.out.frame (FX.out.trans' hw) (fun _ _ => id)) (HV'.out.frame (FX.out.trans' hw) (fun _ _ => id))).mono fun _ _ h => ⟨h.1, hw.trans' h.2⟩, ?_⟩); (try simp only [Act.put, List.setIfInBounds_toArray, List.set_cons_zero, List.set_cons_succ]))
        (refine q_take ?_ (by kernel_rfl) ?_ ?_; rotate_left; (· intro w' hS; go_simp; try with_reducible rfl); (try simp only [Act.put, List.setIfInBounds_toArray, List.set_cons_zero, List.set_cons_succ]))
        refine q_end (fun w' hw => ?_)
        have HE := hid (FW.out.trans' hw)
        clear hw
        go_wp2
        go_roundw
        case rel => exact ⟨k + 1, by omega, by go_num, HE.out⟩
        case measure => simp [intOf]; omega
      · go_wp2
        go_ret
        exact ⟨rfl, HF0.out.trans' hf⟩
end Go.Proofs.Ytebanmigaikhhaa
