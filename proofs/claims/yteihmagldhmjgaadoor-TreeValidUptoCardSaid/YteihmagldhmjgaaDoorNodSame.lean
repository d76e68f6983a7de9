/- inglenookref.SameNode, SameNodes: two lists of nodes that are the same. -/
import Derived.Test.YteihmagldhmjgaaDoorTreeF
import Derived.Test.YteihmagldhmjgaaDoorRefSame
import Derived.Test.YteihmagldhmjgaaDoorRegion
namespace Go.Proofs.YteihmagldhmjgaaDoor
open Go.RowKit

set_option maxHeartbeats 1600000 in
theorem nsames_of (N : Nat) (ih : ∀ (x : Nd), x.sz ≤ N → ∀ (D E : Nat → Prop) (w : World) (u u' : Array Value), NIn D w x u → NIn E w x u' →
      Calls Tryd.prog 26 #[.agg u, .agg u'] w fun e w' => e = .returned (.bool true) ∧ Fr (fun _ => False) w w')
    (l : List Nd) (hl : szL l ≤ N) (D E : Nat → Prop) (w : World) (v v' : Value) (h : NL D w l v) (h' : NL E w l v') :
    Calls Tryd.prog 19 #[v, v'] w fun e w' => e = .returned (.bool true) ∧ Fr (fun _ => False) w w' := by
  obtain ⟨a, cap, us, rfl, hc, hm, hn, hb, hi⟩ := h
  obtain ⟨a', cap', us', rfl, hc', hm', hn', hb', hi'⟩ := h'
  have hlm : l.length ≤ 9223372036854775807 := Nat.le_trans hc hm
  have q4 : ((l.length : Int) != (l.length : Int)) = false := by simp
  have HB := hid hb; have HI := hid hi; have HN := hid hl
  have HB' := hid hb'; have HI' := hid hi'
  clear hb hi hl hn hb' hi' hn' hc' hm'
  go_enter Tryd.func19, Tryd.ntmps19
  go_wp2
  clear q4
  go_loopw [5] (fun i wr => ∃ k : Nat, k ≤ l.length ∧ i = .int .i64 k ∧ Fr (fun _ => False) w wr) (fun i _ => l.length - (intOf i).toNat)
  case atStart => exact ⟨0, Nat.zero_le _, rfl, Fr.refl _ _⟩
  case round =>
    obtain ⟨k, hk, rfl, hf⟩ := hrel
    by_cases hlt : k < l.length
    · obtain ⟨b, o, y, yva, c1, a2, c2, rfl, -, hy, hv, e0, e1, e2, e3, e4, e5, e6, e7⟩ := NL.elem HB.out HI.out k hlt
      obtain ⟨b', o', y', yva', c1', a2', c2', rfl, -, hy', hv', f0, f1, f2, f3, f4, f5, f6, f7⟩ := NL.elem HB'.out HI'.out k hlt
      rw [hy] at hy'
      obtain rfl := Option.some.inj hy'
      have t2 := szL_mem hy
      have hy1 : y.sz ≤ N := by have := HN.out; omega
      have hc := ih y hy1 D E
      clear t2 hy1 hy
      have HFr := hid hf; have HV := hid hv; have HV' := hid hv'; have HC := hid hc
      have E0 := hid e0; have E1 := hid e1; have E2 := hid e2; have E3 := hid e3; have E4 := hid e4; have E5 := hid e5; have E6 := hid e6; have E7 := hid e7
      have G0 := hid f0; have G1 := hid f1; have G2 := hid f2; have G3 := hid f3; have G4 := hid f4; have G5 := hid f5; have G6 := hid f6; have G7 := hid f7
      clear hf hv hv' hc hy' f0 e0 f1 e1 f2 e2 f3 e3 f4 e4 f5 e5 f6 e6 f7 e7
      go_upto_region 6 with fail
      refine wp_region_cls (fun w' => Fr (fun _ => False) wr w') (by kernel_rfl) (by kernel_rfl) (Fr.refl _ _).drew ?_
      iterate 3 (refine q_take ?_ (by kernel_rfl) ?_ ?_; rotate_left; (· intro w' hS; go_simp; try with_reducible rfl); (try simp only [Act.put, List.setIfInBounds_toArray, List.set_cons_zero, List.set_cons_succ]))
      (refine q_take ?_ (by kernel_rfl) ?_ ?_; rotate_left; (· intro w' hS; have d0 := (HFr.out.trans' hS).cell E0.out not_false; have d1 := (HFr.out.trans' hS).cell E1.out not_false; have d2 := (HFr.out.trans' hS).cell E2.out not_false; have d3 := (HFr.out.trans' hS).cell E3.out not_false; have d4 := (HFr.out.trans' hS).cell E4.out not_false; have d5 := (HFr.out.trans' hS).cell E5.out not_false; have d6 := (HFr.out.trans' hS).cell E6.out not_false; have d7 := (HFr.out.trans' hS).cell E7.out not_false; go_simp; try with_reducible rfl); try simp only [Act.put, List.setIfInBounds_toArray, List.set_cons_zero, List.set_cons_succ])
      iterate 3 (refine q_take ?_ (by kernel_rfl) ?_ ?_; rotate_left; (· intro w' hS; go_simp; try with_reducible rfl); (try simp only [Act.put, List.setIfInBounds_toArray, List.set_cons_zero, List.set_cons_succ]))
      (refine q_take ?_ (by kernel_rfl) ?_ ?_; rotate_left; (· intro w' hS; have d0 := (HFr.out.trans' hS).cell G0.out not_false; have d1 := (HFr.out.trans' hS).cell G1.out not_false; have d2 := (HFr.out.trans' hS).cell G2.out not_false; have d3 := (HFr.out.trans' hS).cell G3.out not_false; have d4 := (HFr.out.trans' hS).cell G4.out not_false; have d5 := (HFr.out.trans' hS).cell G5.out not_false; have d6 := (HFr.out.trans' hS).cell G6.out not_false; have d7 := (HFr.out.trans' hS).cell G7.out not_false; go_simp; try with_reducible rfl); try simp only [Act.put, List.setIfInBounds_toArray, List.set_cons_zero, List.set_cons_succ])
      (refine q_call ?_ ?_ (by kernel_rfl) ?_ ?_; rotate_left 2; (· intro w' hS; go_simp; first | with_reducible rfl | (constructor <;> with_reducible rfl)); (refine ⟨_, fun w' hw => (HC.out w' _ _ (HV.out.frame (HFr.out.trans' hw) (fun _ _ => id)) (HV'.out.frame (HFr.out.trans' hw) (fun _ _ => id))).mono fun _ _ h => ⟨h.1, hw.trans' h.2⟩, ?_⟩); (try simp only [Act.put, List.setIfInBounds_toArray, List.set_cons_zero, List.set_cons_succ]))
      (refine q_take ?_ (by kernel_rfl) ?_ ?_; rotate_left; (· intro w' hS; go_simp; try with_reducible rfl); (try simp only [Act.put, List.setIfInBounds_toArray, List.set_cons_zero, List.set_cons_succ]))
      refine q_end (fun w' hw => ?_)
      have HE := hid (HFr.out.trans' hw)
      clear hw
      go_wp2
      go_roundw
      case rel => exact ⟨k + 1, by omega, by go_num, HE.out⟩
      case measure => simp [intOf]; omega
    · go_wp2
      go_ret
      exact ⟨rfl, hf⟩


set_option maxHeartbeats 1600000 in
theorem nsame_refl : ∀ (N : Nat) (x : Nd), x.sz ≤ N → ∀ (D E : Nat → Prop) (w : World) (u u' : Array Value), NIn D w x u → NIn E w x u' →
    Calls Tryd.prog 26 #[.agg u, .agg u'] w fun e w' => e = .returned (.bool true) ∧ Fr (fun _ => False) w w' := by
  intro N
  induction N with
  | zero =>
    intro x h
    rw [Nd.sz_eq] at h
    omega
  | succ N ih =>
    intro x hN D E w u u' h h'
    have hs := Nd.sz_eq x
    obtain ⟨va, v, rfl, hX, hL⟩ := h.open
    obtain ⟨va', v', rfl, hX', hL'⟩ := h'.open
    have hcall := nsames_of N ih x.l (by omega) D E
    obtain ⟨a1, c1, us1, rfl, -⟩ := id hX
    obtain ⟨a1', c1', us1', rfl, -⟩ := id hX'
    obtain ⟨a, cap, us, rfl, -⟩ := id hL
    obtain ⟨a', cap', us', rfl, -⟩ := id hL'
    have hval := rsame_refl x.v.size x.v (Nat.le_refl _) D E
    have hxv : VIn D w x.v #[.int .i64 x.v.k, .int .i64 x.v.n, .string x.v.s, .slice a1 x.v.l.length c1] := by
      have := hX.close x.v.k x.v.n x.v.s
      have e : x.v = .mk x.v.k x.v.n x.v.s x.v.l := by cases x.v; rfl
      rw [← e] at this; exact this
    have hxv' : VIn E w x.v #[.int .i64 x.v.k, .int .i64 x.v.n, .string x.v.s, .slice a1' x.v.l.length c1'] := by
      have := hX'.close x.v.k x.v.n x.v.s
      have e : x.v = .mk x.v.k x.v.n x.v.s x.v.l := by cases x.v; rfl
      rw [← e] at this; exact this
    have HV := hid hval; have HX := hid hxv; have HX' := hid hxv'
    clear hval hxv hxv' hX hX'
    generalize x.op = oo at *
    generalize x.ln = nn at *
    generalize x.s = ss at *
    generalize x.v.k = vk at *
    generalize x.v.n = vn at *
    generalize x.v.s = vs at *
    generalize x.v.l.length = vl at *
    generalize x.l = l at *
    have q1 : (oo == oo) = true := by simp
    have q2 : (nn == nn) = true := by simp
    have q3 : (ss.toList == ss.toList) = true := by simp
    have HL := hid hL; have HL' := hid hL'; have HC := hid hcall
    clear hL hL' hcall hs hN h h'
    have hF : Fr (fun _ => False) w ((w.alloc (.cells #[.int .i64 oo, .int .i64 nn, .string ss, .int .i64 vk, .int .i64 vn, .string vs, .slice a1 vl c1, .slice a l.length cap] 29)).alloc (.cells #[.int .i64 oo, .int .i64 nn, .string ss, .int .i64 vk, .int .i64 vn, .string vs, .slice a1' vl c1', .slice a' l.length cap'] 29)) := ((Fr.refl _ _).alloc _).alloc _
    have hb2 : ((w.alloc (.cells #[.int .i64 oo, .int .i64 nn, .string ss, .int .i64 vk, .int .i64 vn, .string vs, .slice a1 vl c1, .slice a l.length cap] 29)).alloc (.cells #[.int .i64 oo, .int .i64 nn, .string ss, .int .i64 vk, .int .i64 vn, .string vs, .slice a1' vl c1', .slice a' l.length cap'] 29)).heap[w.heap.size]? = some (.cells #[.int .i64 oo, .int .i64 nn, .string ss, .int .i64 vk, .int .i64 vn, .string vs, .slice a1 vl c1, .slice a l.length cap] 29) := ((Fr.refl (fun _ => False) _).alloc _).heap (heap_alloc_new w _) not_false
    have hb3 : ((w.alloc (.cells #[.int .i64 oo, .int .i64 nn, .string ss, .int .i64 vk, .int .i64 vn, .string vs, .slice a1 vl c1, .slice a l.length cap] 29)).alloc (.cells #[.int .i64 oo, .int .i64 nn, .string ss, .int .i64 vk, .int .i64 vn, .string vs, .slice a1' vl c1', .slice a' l.length cap'] 29)).heap[w.heap.size + 1]? = some (.cells #[.int .i64 oo, .int .i64 nn, .string ss, .int .i64 vk, .int .i64 vn, .string vs, .slice a1' vl c1', .slice a' l.length cap'] 29) := by
      have := heap_alloc_new (w.alloc (.cells #[.int .i64 oo, .int .i64 nn, .string ss, .int .i64 vk, .int .i64 vn, .string vs, .slice a1 vl c1, .slice a l.length cap] 29)) (.cells #[.int .i64 oo, .int .i64 nn, .string ss, .int .i64 vk, .int .i64 vn, .string vs, .slice a1' vl c1', .slice a' l.length cap'] 29)
      simpa using this
    go_enter Tryd.func26, Tryd.ntmps26
    go_upto_region 1 with fail
    generalize (w.alloc (.cells #[.int .i64 oo, .int .i64 nn, .string ss, .int .i64 vk, .int .i64 vn, .string vs, .slice a1 vl c1, .slice a l.length cap] 29)).alloc (.cells #[.int .i64 oo, .int .i64 nn, .string ss, .int .i64 vk, .int .i64 vn, .string vs, .slice a1' vl c1', .slice a' l.length cap'] 29) = W at *
    have d0 : W.cell? ⟨w.heap.size, 0, none⟩ = some (.int .i64 oo) := by rw [cell_of_row W _ 0 _ _ _ hb2]; rfl
    have d1 : W.cell? ⟨w.heap.size, 1, none⟩ = some (.int .i64 nn) := by rw [cell_of_row W _ 1 _ _ _ hb2]; rfl
    have d2 : W.cell? ⟨w.heap.size, 2, none⟩ = some (.string ss) := by rw [cell_of_row W _ 2 _ _ _ hb2]; rfl
    have d3 : W.cell? ⟨w.heap.size, 3, none⟩ = some (.int .i64 vk) := by rw [cell_of_row W _ 3 _ _ _ hb2]; rfl
    have d4 : W.cell? ⟨w.heap.size, 4, none⟩ = some (.int .i64 vn) := by rw [cell_of_row W _ 4 _ _ _ hb2]; rfl
    have d5 : W.cell? ⟨w.heap.size, 5, none⟩ = some (.string vs) := by rw [cell_of_row W _ 5 _ _ _ hb2]; rfl
    have d6 : W.cell? ⟨w.heap.size, 6, none⟩ = some (.slice a1 vl c1) := by rw [cell_of_row W _ 6 _ _ _ hb2]; rfl
    have d7 : W.cell? ⟨w.heap.size, 7, none⟩ = some (.slice a l.length cap) := by rw [cell_of_row W _ 7 _ _ _ hb2]; rfl
    have g0 : W.cell? ⟨w.heap.size + 1, 0, none⟩ = some (.int .i64 oo) := by rw [cell_of_row W _ 0 _ _ _ hb3]; rfl
    have g1 : W.cell? ⟨w.heap.size + 1, 1, none⟩ = some (.int .i64 nn) := by rw [cell_of_row W _ 1 _ _ _ hb3]; rfl
    have g2 : W.cell? ⟨w.heap.size + 1, 2, none⟩ = some (.string ss) := by rw [cell_of_row W _ 2 _ _ _ hb3]; rfl
    have g3 : W.cell? ⟨w.heap.size + 1, 3, none⟩ = some (.int .i64 vk) := by rw [cell_of_row W _ 3 _ _ _ hb3]; rfl
    have g4 : W.cell? ⟨w.heap.size + 1, 4, none⟩ = some (.int .i64 vn) := by rw [cell_of_row W _ 4 _ _ _ hb3]; rfl
    have g5 : W.cell? ⟨w.heap.size + 1, 5, none⟩ = some (.string vs) := by rw [cell_of_row W _ 5 _ _ _ hb3]; rfl
    have g6 : W.cell? ⟨w.heap.size + 1, 6, none⟩ = some (.slice a1' vl c1') := by rw [cell_of_row W _ 6 _ _ _ hb3]; rfl
    have g7 : W.cell? ⟨w.heap.size + 1, 7, none⟩ = some (.slice a' l.length cap') := by rw [cell_of_row W _ 7 _ _ _ hb3]; rfl
    have HF := hid hF; have H2 := hid hb2; have H3 := hid hb3
    clear hF hb2 hb3
    go_wp2_with fail
    refine (HC.out _ _ _ (HL.out.frame HF.out fun _ _ => id) (HL'.out.frame HF.out fun _ _ => id)).mono ?_
    rintro e w2 ⟨rfl, hf2⟩
    replace d0 := hf2.cell d0 not_false
    replace d1 := hf2.cell d1 not_false
    replace d2 := hf2.cell d2 not_false
    replace d3 := hf2.cell d3 not_false
    replace d4 := hf2.cell d4 not_false
    replace d5 := hf2.cell d5 not_false
    replace d6 := hf2.cell d6 not_false
    replace d7 := hf2.cell d7 not_false
    replace g0 := hf2.cell g0 not_false
    replace g1 := hf2.cell g1 not_false
    replace g2 := hf2.cell g2 not_false
    replace g3 := hf2.cell g3 not_false
    replace g4 := hf2.cell g4 not_false
    replace g5 := hf2.cell g5 not_false
    replace g6 := hf2.cell g6 not_false
    replace g7 := hf2.cell g7 not_false
    have HF2 := hid (HF.out.trans' hf2)
    clear hf2
    go_wp2_with fail
    refine (HV.out _ _ _ (HX.out.frame HF2.out fun _ _ => id) (HX'.out.frame HF2.out fun _ _ => id)).mono ?_
    rintro e w3 ⟨rfl, hf3⟩
    replace d0 := hf3.cell d0 not_false
    replace d1 := hf3.cell d1 not_false
    replace d2 := hf3.cell d2 not_false
    replace d3 := hf3.cell d3 not_false
    replace d4 := hf3.cell d4 not_false
    replace d5 := hf3.cell d5 not_false
    replace d6 := hf3.cell d6 not_false
    replace d7 := hf3.cell d7 not_false
    replace g0 := hf3.cell g0 not_false
    replace g1 := hf3.cell g1 not_false
    replace g2 := hf3.cell g2 not_false
    replace g3 := hf3.cell g3 not_false
    replace g4 := hf3.cell g4 not_false
    replace g5 := hf3.cell g5 not_false
    replace g6 := hf3.cell g6 not_false
    replace g7 := hf3.cell g7 not_false
    have HF3 := hid (HF2.out.trans' hf3)
    clear hf3
    go_wp2
    go_ret
    exact ⟨rfl, HF3.out⟩
theorem nsames_refl (l : List Nd) (D E : Nat → Prop) (w : World) (v v' : Value) (h : NL D w l v) (h' : NL E w l v') : Calls Tryd.prog 19 #[v, v'] w fun e w' => e = .returned (.bool true) ∧ Fr (fun _ => False) w w' :=
  nsames_of (szL l) (nsame_refl (szL l)) l (Nat.le_refl _) D E w v v' h h'
end Go.Proofs.YteihmagldhmjgaaDoor
