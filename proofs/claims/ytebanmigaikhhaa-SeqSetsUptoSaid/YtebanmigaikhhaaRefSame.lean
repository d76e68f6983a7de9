/- inglenookref.SameValue, SameValues: two values that are the same. -/
import Derived.Test.YtebanmigaikhhaaValSize
namespace Go.Proofs.Ytebanmigaikhhaa
open Go.RowKit

set_option maxHeartbeats 1600000 in
theorem rsames_of (N : Nat) (ih : ∀ (x : V), x.size ≤ N → ∀ (D E : Nat → Prop) (w : World) (u u' : Array Value), VIn D w x u → VIn E w x u' →
      Calls Try.prog 12 #[.agg u, .agg u'] w fun e w' => e = .returned (.bool true) ∧ Fr (fun _ => False) w w')
    (l : List V) (hl : sizeL l ≤ N) (D E : Nat → Prop) (w : World) (v v' : Value) (h : VL D w l v) (h' : VL E w l v') :
    Calls Try.prog 15 #[v, v'] w fun e w' => e = .returned (.bool true) ∧ Fr (fun _ => False) w w' := by
  obtain ⟨a, cap, us, rfl, hc, hm, hn, hb, hi⟩ := h
  obtain ⟨a', cap', us', rfl, hc', hm', hn', hb', hi'⟩ := h'
  have hlm : l.length ≤ 9223372036854775807 := Nat.le_trans hc hm
  have q4 : ((l.length : Int) != (l.length : Int)) = false := by simp
  have HB := hid hb; have HI := hid hi; have HN := hid hl
  have HB' := hid hb'; have HI' := hid hi'
  clear hb hi hl hn hb' hi' hn' hc' hm'
  go_enter Try.func15, Try.ntmps15
  go_wp2
  clear q4
  go_loopw [5] (fun i wr => ∃ k : Nat, k ≤ l.length ∧ i = .int .i64 k ∧ Fr (fun _ => False) w wr) (fun i _ => l.length - (intOf i).toNat)
  case atStart => exact ⟨0, Nat.zero_le _, rfl, Fr.refl _ _⟩
  case round =>
    obtain ⟨k, hk, rfl, hf⟩ := hrel
    by_cases hlt : k < l.length
    · obtain ⟨b, o, y, a2, c2, rfl, -, hy, hv, e0, e1, e2, e3⟩ := VL.elem HB.out HI.out k hlt
      obtain ⟨b', o', y', a2', c2', rfl, -, hy', hv', f0, f1, f2, f3⟩ := VL.elem HB'.out HI'.out k hlt
      rw [hy] at hy'
      obtain rfl := Option.some.inj hy'
      have t2 := sizeL_mem hy
      have hy1 : y.size ≤ N := by have := HN.out; omega
      have hc := ih y hy1 D E
      clear t2 hy1 hy
      have HFr := hid hf; have HV := hid hv; have HV' := hid hv'; have HC := hid hc
      have E0 := hid e0; have E1 := hid e1; have E2 := hid e2; have E3 := hid e3
      have G0 := hid f0; have G1 := hid f1; have G2 := hid f2; have G3 := hid f3
      clear hf hv hv' hc hy' f0 f1 f2 f3 e0 e1 e2 e3
      go_upto_region 6 with fail
      refine wp_region_cls (fun w' => Fr (fun _ => False) wr w') (by kernel_rfl) (by kernel_rfl) (Fr.refl _ _).drew ?_
      iterate 3 (refine q_take ?_ (by kernel_rfl) ?_ ?_; rotate_left; (· intro w' hS; go_simp; try with_reducible rfl); (try simp only [Act.put, List.setIfInBounds_toArray, List.set_cons_zero, List.set_cons_succ]))
      (refine q_take ?_ (by kernel_rfl) ?_ ?_; rotate_left; (· intro w' hS; have d0 := (HFr.out.trans' hS).cell E0.out not_false; have d1 := (HFr.out.trans' hS).cell E1.out not_false; have d2 := (HFr.out.trans' hS).cell E2.out not_false; have d3 := (HFr.out.trans' hS).cell E3.out not_false; go_simp; try with_reducible rfl); try simp only [Act.put, List.setIfInBounds_toArray, List.set_cons_zero, List.set_cons_succ])
      iterate 3 (refine q_take ?_ (by kernel_rfl) ?_ ?_; rotate_left; (· intro w' hS; go_simp; try with_reducible rfl); (try simp only [Act.put, List.setIfInBounds_toArray, List.set_cons_zero, List.set_cons_succ]))
      (refine q_take ?_ (by kernel_rfl) ?_ ?_; rotate_left; (· intro w' hS; have d0 := (HFr.out.trans' hS).cell G0.out not_false; have d1 := (HFr.out.trans' hS).cell G1.out not_false; have d2 := (HFr.out.trans' hS).cell G2.out not_false; have d3 := (HFr.out.trans' hS).cell G3.out not_false; go_simp; try with_reducible rfl); try simp only [Act.put, List.setIfInBounds_toArray, List.set_cons_zero, List.set_cons_succ])
      (refine q_call ?_ ?_ (by kernel_rfl) ?_ ?_; rotate_left 2; (· intro w' hS; go_simp; first | with_reducible rfl | (constructor <;> with_reducible rfl)); (refine ⟨_, fun w' hw => (HC.out w' _ _ (HV.out.frame (HFr.out.trans' hw) (fun _ _ => id)) (HV'.out.frame (HFr.out.trans' hw) (fun _ _ => id))).mono fun _ _ h => ⟨h.1, hw.trans' h.2⟩, ?_⟩); (try simp only [Act.put, List.setIfInBounds_toArray, List.set_cons_zero, List.set_cons_succ]))
      (refine q_take ?_ (by kernel_rfl) ?_ ?_; rotate_left; (· intro w' hS; go_simp; try with_reducible rfl); (try simp only [Act.put, List.setIfInBounds_toArray, List.set_cons_zero, List.set_cons_succ]))
      refine q_end (fun w' hw => ?_)
      have HE := hid (HFr.out.trans' hw)
      clear hw
      go_wp2
      go_roundw
      case rel => exact ⟨k + 1, by omega, by go_num, HE.out⟩
      case measure => simp [intOf]; omega
    · go_wp2
      go_ret
      exact ⟨rfl, hf⟩

set_option maxHeartbeats 1600000 in
theorem rsame_refl : ∀ (N : Nat) (x : V), x.size ≤ N → ∀ (D E : Nat → Prop) (w : World) (u u' : Array Value), VIn D w x u → VIn E w x u' →
    Calls Try.prog 12 #[.agg u, .agg u'] w fun e w' => e = .returned (.bool true) ∧ Fr (fun _ => False) w w' := by
  intro N
  induction N with
  | zero =>
    intro x h
    rw [V.size_eq] at h
    omega
  | succ N ih =>
    intro x hN D E w u u' h h'
    have hs := V.size_eq x
    obtain ⟨v, rfl, hL⟩ := h.open
    obtain ⟨v', rfl, hL'⟩ := h'.open
    have hcall := rsames_of N ih x.l (by omega) D E
    obtain ⟨a, cap, us, rfl, -⟩ := id hL
    obtain ⟨a', cap', us', rfl, -⟩ := id hL'
    generalize x.k = kk at *
    generalize x.n = nn at *
    generalize x.s = ss at *
    generalize x.l = l at *
    have q1 : (kk == kk) = true := by simp
    have q2 : (nn == nn) = true := by simp
    have q3 : (ss.toList == ss.toList) = true := by simp
    have HL := hid hL; have HL' := hid hL'; have HC := hid hcall
    clear hL hL' hcall hs hN h h'
    go_enter Try.func12, Try.ntmps12
    go_wp2_with fail
    have hF : Fr (fun _ => False) w ((w.alloc (.cells #[.int .i64 kk, .int .i64 nn, .string ss, .slice a l.length cap] 30)).alloc (.cells #[.int .i64 kk, .int .i64 nn, .string ss, .slice a' l.length cap'] 30)) := ((Fr.refl _ _).alloc _).alloc _
    have hb2 : ((w.alloc (.cells #[.int .i64 kk, .int .i64 nn, .string ss, .slice a l.length cap] 30)).alloc (.cells #[.int .i64 kk, .int .i64 nn, .string ss, .slice a' l.length cap'] 30)).heap[w.heap.size]? = some (.cells #[.int .i64 kk, .int .i64 nn, .string ss, .slice a l.length cap] 30) := ((Fr.refl (fun _ => False) _).alloc _).heap (heap_alloc_new w _) not_false
    have hb3 : ((w.alloc (.cells #[.int .i64 kk, .int .i64 nn, .string ss, .slice a l.length cap] 30)).alloc (.cells #[.int .i64 kk, .int .i64 nn, .string ss, .slice a' l.length cap'] 30)).heap[w.heap.size + 1]? = some (.cells #[.int .i64 kk, .int .i64 nn, .string ss, .slice a' l.length cap'] 30) := by
      have := heap_alloc_new (w.alloc (.cells #[.int .i64 kk, .int .i64 nn, .string ss, .slice a l.length cap] 30)) (.cells #[.int .i64 kk, .int .i64 nn, .string ss, .slice a' l.length cap'] 30)
      simpa using this
    refine (HC.out _ _ _ (HL.out.frame hF fun _ _ => id) (HL'.out.frame hF fun _ _ => id)).mono ?_
    rintro e w2 ⟨rfl, hf2⟩
    replace hb2 := hf2.heap hb2 not_false
    replace hb3 := hf2.heap hb3 not_false
    have d0 : w2.cell? ⟨w.heap.size, 0, none⟩ = some (.int .i64 kk) := by rw [cell_of_row w2 _ 0 _ _ _ hb2]; rfl
    have d1 : w2.cell? ⟨w.heap.size, 1, none⟩ = some (.int .i64 nn) := by rw [cell_of_row w2 _ 1 _ _ _ hb2]; rfl
    have d2 : w2.cell? ⟨w.heap.size, 2, none⟩ = some (.string ss) := by rw [cell_of_row w2 _ 2 _ _ _ hb2]; rfl
    have g0 : w2.cell? ⟨w.heap.size + 1, 0, none⟩ = some (.int .i64 kk) := by rw [cell_of_row w2 _ 0 _ _ _ hb3]; rfl
    have g1 : w2.cell? ⟨w.heap.size + 1, 1, none⟩ = some (.int .i64 nn) := by rw [cell_of_row w2 _ 1 _ _ _ hb3]; rfl
    have g2 : w2.cell? ⟨w.heap.size + 1, 2, none⟩ = some (.string ss) := by rw [cell_of_row w2 _ 2 _ _ _ hb3]; rfl
    have HE := hid (hF.trans' hf2)
    clear hF hf2 hb2 hb3
    go_wp2
    go_ret
    exact ⟨rfl, HE.out⟩
end Go.Proofs.Ytebanmigaikhhaa
