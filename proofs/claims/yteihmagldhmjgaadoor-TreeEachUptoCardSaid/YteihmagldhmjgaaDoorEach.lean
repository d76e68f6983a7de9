/- TreeEach: a range over a function in the plain calculus, the document's Walk, what tree.Each promises, the walk of the law (seven texts in one: a claim has at most 60 files). -/
import Derived.Test.YteihmagldhmjgaaDoorValSize
import Derived.Test.YteihmagldhmjgaaDoorTreeF
import Derived.Test.YteihmagldhmjgaaDoorRegion
import Derived.RangeFuncLeaves
import Derived.RangeFuncSeq
import Derived.OrdersIn
import Derived.TacticsIn
import Derived.RangeFuncRecord
import Derived.Test.YteihmagldhmjgaaDoorClone
import Derived.Test.YteihmagldhmjgaaDoorTreeN
import Derived.Deep.CutRange
import Derived.RangeFuncCalls
import Derived.Shelf.Abstract
import Derived.Shelf.RegionOpen
import Derived.OwnWalkIn
import Derived.TacticsInMore
import Derived.Test.YteihmagldhmjgaaDoorTurned
namespace Go.Proofs.YteihmagldhmjgaaDoor
section
open Go.RowKit

set_option maxHeartbeats 1600000 in
theorem rsames_of (N : Nat) (ih : ∀ (x : V), x.size ≤ N → ∀ (D E : Nat → Prop) (w : World) (u u' : Array Value), VIn D w x u → VIn E w x u' →
      Calls Tryd.prog 46 #[.agg u, .agg u'] w fun e w' => e = .returned (.bool true) ∧ Fr (fun _ => False) w w')
    (l : List V) (hl : sizeL l ≤ N) (D E : Nat → Prop) (w : World) (v v' : Value) (h : VL D w l v) (h' : VL E w l v') :
    Calls Tryd.prog 65 #[v, v'] w fun e w' => e = .returned (.bool true) ∧ Fr (fun _ => False) w w' := by
  obtain ⟨a, cap, us, rfl, hc, hm, hn, hb, hi⟩ := h
  obtain ⟨a', cap', us', rfl, hc', hm', hn', hb', hi'⟩ := h'
  have hlm : l.length ≤ 9223372036854775807 := Nat.le_trans hc hm
  have q4 : ((l.length : Int) != (l.length : Int)) = false := by simp
  have HB := hid hb; have HI := hid hi; have HN := hid hl
  have HB' := hid hb'; have HI' := hid hi'
  clear hb hi hl hn hb' hi' hn' hc' hm'
  go_enter Tryd.func65, Tryd.ntmps65
  go_wp2
  clear q4
  go_loopw [5] (fun i wr => ∃ k : Nat, k ≤ l.length ∧ i = .int .i64 k ∧ Fr (fun _ => False) w wr) (fun i _ => l.length - (intOf i).toNat)
  case atStart => exact ⟨0, Nat.zero_le _, rfl, Fr.refl _ _⟩
  case round =>
    obtain ⟨k, hk, rfl, hf⟩ := hrel
    by_cases hlt : k < l.length
    · obtain ⟨b, o, y, a2, c2, rfl, -, hy, hv, e0, e1, e2, e3⟩ := VL.elem HB.out HI.out k hlt
      obtain ⟨b', o', y', a2', c2', rfl, -, hy', hv', f0, f1, f2, f3⟩ := VL.elem HB'.out HI'.out k hlt
      rw [hy] at hy'
      obtain rfl := Option.some.inj hy'
      have t2 := sizeL_mem hy
      have hy1 : y.size ≤ N := by have := HN.out; omega
      have hc := ih y hy1 D E
      clear t2 hy1 hy
      have HFr := hid hf; have HV := hid hv; have HV' := hid hv'; have HC := hid hc
      have E0 := hid e0; have E1 := hid e1; have E2 := hid e2; have E3 := hid e3
      have G0 := hid f0; have G1 := hid f1; have G2 := hid f2; have G3 := hid f3
      clear hf hv hv' hc hy' f0 f1 f2 f3 e0 e1 e2 e3
      go_upto_region 6 with fail
      refine wp_region_cls (fun w' => Fr (fun _ => False) wr w') (by kernel_rfl) (by kernel_rfl) (Fr.refl _ _).drew ?_
      iterate 3 (refine q_take ?_ (by kernel_rfl) ?_ ?_; rotate_left; (· intro w' hS; go_simp; try with_reducible rfl); (try simp only [Act.put, List.setIfInBounds_toArray, List.set_cons_zero, List.set_cons_succ]))
      (refine q_take ?_ (by kernel_rfl) ?_ ?_; rotate_left; (· intro w' hS; have d0 := (HFr.out.trans' hS).cell E0.out not_false; have d1 := (HFr.out.trans' hS).cell E1.out not_false; have d2 := (HFr.out.trans' hS).cell E2.out not_false; have d3 := (HFr.out.trans' hS).cell E3.out not_false; go_simp; try with_reducible rfl); try simp only [Act.put, List.setIfInBounds_toArray, List.set_cons_zero, List.set_cons_succ])
      iterate 3 (refine q_take ?_ (by kernel_rfl) ?_ ?_; rotate_left; (· intro w' hS; go_simp; try with_reducible rfl); (try simp only [Act.put, List.setIfInBounds_toArray, List.set_cons_zero, List.set_cons_succ]))
      (refine q_take ?_ (by kernel_rfl) ?_ ?_; rotate_left; (· intro w' hS; have d0 := (HFr.out.trans' hS).cell G0.out not_false; have d1 := (HFr.out.trans' hS).cell G1.out not_false; have d2 := (HFr.out.trans' hS).cell G2.out not_false; have d3 := (HFr.out.trans' hS).cell G3.out not_false; go_simp; try with_reducible rfl); try simp only [Act.put, List.setIfInBounds_toArray, List.set_cons_zero, List.set_cons_succ])
      (refine q_call ?_ ?_ (by kernel_rfl) ?_ ?_; rotate_left 2; (· intro w' hS; go_simp; first | with_reducible rfl | (constructor <;> with_reducible rfl)); (refine ⟨_, fun w' hw => (HC.out w' _ _ (HV.out.frame (HFr.out.trans' hw) (fun _ _ => id)) (HV'.out.frame (HFr.out.trans' hw) (fun _ _ => id))).mono fun _ _ h => ⟨h.1, hw.trans' h.2⟩, ?_⟩); (try simp only [Act.put, List.setIfInBounds_toArray, List.set_cons_zero, List.set_cons_succ]))
      (refine q_take ?_ (by kernel_rfl) ?_ ?_; rotate_left; (· intro w' hS; go_simp; try with_reducible rfl); (try simp only [Act.put, List.setIfInBounds_toArray, List.set_cons_zero, List.set_cons_succ]))
      refine q_end (fun w' hw => ?_)
      have HE := hid (HFr.out.trans' hw)
      clear hw
      go_wp2
      go_roundw
      case rel => exact ⟨k + 1, by omega, by go_num, HE.out⟩
      case measure => simp [intOf]; omega
    · go_wp2
      go_ret
      exact ⟨rfl, hf⟩

set_option maxHeartbeats 1600000 in
theorem rsame_refl : ∀ (N : Nat) (x : V), x.size ≤ N → ∀ (D E : Nat → Prop) (w : World) (u u' : Array Value), VIn D w x u → VIn E w x u' →
    Calls Tryd.prog 46 #[.agg u, .agg u'] w fun e w' => e = .returned (.bool true) ∧ Fr (fun _ => False) w w' := by
  intro N
  induction N with
  | zero =>
    intro x h
    rw [V.size_eq] at h
    omega
  | succ N ih =>
    intro x hN D E w u u' h h'
    have hs := V.size_eq x
    obtain ⟨v, rfl, hL⟩ := h.open
    obtain ⟨v', rfl, hL'⟩ := h'.open
    have hcall := rsames_of N ih x.l (by omega) D E
    obtain ⟨a, cap, us, rfl, -⟩ := id hL
    obtain ⟨a', cap', us', rfl, -⟩ := id hL'
    generalize x.k = kk at *
    generalize x.n = nn at *
    generalize x.s = ss at *
    generalize x.l = l at *
    have q1 : (kk == kk) = true := by simp
    have q2 : (nn == nn) = true := by simp
    have q3 : (ss.toList == ss.toList) = true := by simp
    have HL := hid hL; have HL' := hid hL'; have HC := hid hcall
    clear hL hL' hcall hs hN h h'
    go_enter Tryd.func46, Tryd.ntmps46
    go_wp2_with fail
    have hF : Fr (fun _ => False) w ((w.alloc (.cells #[.int .i64 kk, .int .i64 nn, .string ss, .slice a l.length cap] 26)).alloc (.cells #[.int .i64 kk, .int .i64 nn, .string ss, .slice a' l.length cap'] 26)) := ((Fr.refl _ _).alloc _).alloc _
    have hb2 : ((w.alloc (.cells #[.int .i64 kk, .int .i64 nn, .string ss, .slice a l.length cap] 26)).alloc (.cells #[.int .i64 kk, .int .i64 nn, .string ss, .slice a' l.length cap'] 26)).heap[w.heap.size]? = some (.cells #[.int .i64 kk, .int .i64 nn, .string ss, .slice a l.length cap] 26) := ((Fr.refl (fun _ => False) _).alloc _).heap (heap_alloc_new w _) not_false
    have hb3 : ((w.alloc (.cells #[.int .i64 kk, .int .i64 nn, .string ss, .slice a l.length cap] 26)).alloc (.cells #[.int .i64 kk, .int .i64 nn, .string ss, .slice a' l.length cap'] 26)).heap[w.heap.size + 1]? = some (.cells #[.int .i64 kk, .int .i64 nn, .string ss, .slice a' l.length cap'] 26) := by
      have := heap_alloc_new (w.alloc (.cells #[.int .i64 kk, .int .i64 nn, .string ss, .slice a l.length cap] 26)) (.cells #[.int .i64 kk, .int .i64 nn, .string ss, .slice a' l.length cap'] 26)
      simpa using this
    refine (HC.out _ _ _ (HL.out.frame hF fun _ _ => id) (HL'.out.frame hF fun _ _ => id)).mono ?_
    rintro e w2 ⟨rfl, hf2⟩
    replace hb2 := hf2.heap hb2 not_false
    replace hb3 := hf2.heap hb3 not_false
    have d0 : w2.cell? ⟨w.heap.size, 0, none⟩ = some (.int .i64 kk) := by rw [cell_of_row w2 _ 0 _ _ _ hb2]; rfl
    have d1 : w2.cell? ⟨w.heap.size, 1, none⟩ = some (.int .i64 nn) := by rw [cell_of_row w2 _ 1 _ _ _ hb2]; rfl
    have d2 : w2.cell? ⟨w.heap.size, 2, none⟩ = some (.string ss) := by rw [cell_of_row w2 _ 2 _ _ _ hb2]; rfl
    have g0 : w2.cell? ⟨w.heap.size + 1, 0, none⟩ = some (.int .i64 kk) := by rw [cell_of_row w2 _ 0 _ _ _ hb3]; rfl
    have g1 : w2.cell? ⟨w.heap.size + 1, 1, none⟩ = some (.int .i64 nn) := by rw [cell_of_row w2 _ 1 _ _ _ hb3]; rfl
    have g2 : w2.cell? ⟨w.heap.size + 1, 2, none⟩ = some (.string ss) := by rw [cell_of_row w2 _ 2 _ _ _ hb3]; rfl
    have HE := hid (hF.trans' hf2)
    clear hF hf2 hb2 hb3
    go_wp2
    go_ret
    exact ⟨rfl, HE.out⟩
end
section
open Go.RowKit

set_option maxHeartbeats 1600000 in
theorem nsames_of (N : Nat) (ih : ∀ (x : Nd), x.sz ≤ N → ∀ (D E : Nat → Prop) (w : World) (u u' : Array Value), NIn D w x u → NIn E w x u' →
      Calls Tryd.prog 26 #[.agg u, .agg u'] w fun e w' => e = .returned (.bool true) ∧ Fr (fun _ => False) w w')
    (l : List Nd) (hl : szL l ≤ N) (D E : Nat → Prop) (w : World) (v v' : Value) (h : NL D w l v) (h' : NL E w l v') :
    Calls Tryd.prog 19 #[v, v'] w fun e w' => e = .returned (.bool true) ∧ Fr (fun _ => False) w w' := by
  obtain ⟨a, cap, us, rfl, hc, hm, hn, hb, hi⟩ := h
  obtain ⟨a', cap', us', rfl, hc', hm', hn', hb', hi'⟩ := h'
  have hlm : l.length ≤ 9223372036854775807 := Nat.le_trans hc hm
  have q4 : ((l.length : Int) != (l.length : Int)) = false := by simp
  have HB := hid hb; have HI := hid hi; have HN := hid hl
  have HB' := hid hb'; have HI' := hid hi'
  clear hb hi hl hn hb' hi' hn' hc' hm'
  go_enter Tryd.func19, Tryd.ntmps19
  go_wp2
  clear q4
  go_loopw [5] (fun i wr => ∃ k : Nat, k ≤ l.length ∧ i = .int .i64 k ∧ Fr (fun _ => False) w wr) (fun i _ => l.length - (intOf i).toNat)
  case atStart => exact ⟨0, Nat.zero_le _, rfl, Fr.refl _ _⟩
  case round =>
    obtain ⟨k, hk, rfl, hf⟩ := hrel
    by_cases hlt : k < l.length
    · obtain ⟨b, o, y, yva, c1, a2, c2, rfl, -, hy, hv, e0, e1, e2, e3, e4, e5, e6, e7⟩ := NL.elem HB.out HI.out k hlt
      obtain ⟨b', o', y', yva', c1', a2', c2', rfl, -, hy', hv', f0, f1, f2, f3, f4, f5, f6, f7⟩ := NL.elem HB'.out HI'.out k hlt
      rw [hy] at hy'
      obtain rfl := Option.some.inj hy'
      have t2 := szL_mem hy
      have hy1 : y.sz ≤ N := by have := HN.out; omega
      have hc := ih y hy1 D E
      clear t2 hy1 hy
      have HFr := hid hf; have HV := hid hv; have HV' := hid hv'; have HC := hid hc
      have E0 := hid e0; have E1 := hid e1; have E2 := hid e2; have E3 := hid e3; have E4 := hid e4; have E5 := hid e5; have E6 := hid e6; have E7 := hid e7
      have G0 := hid f0; have G1 := hid f1; have G2 := hid f2; have G3 := hid f3; have G4 := hid f4; have G5 := hid f5; have G6 := hid f6; have G7 := hid f7
      clear hf hv hv' hc hy' f0 e0 f1 e1 f2 e2 f3 e3 f4 e4 f5 e5 f6 e6 f7 e7
      go_upto_region 6 with fail
      refine wp_region_cls (fun w' => Fr (fun _ => False) wr w') (by kernel_rfl) (by kernel_rfl) (Fr.refl _ _).drew ?_
      iterate 3 (refine q_take ?_ (by kernel_rfl) ?_ ?_; rotate_left; (· intro w' hS; go_simp; try with_reducible rfl); (try simp only [Act.put, List.setIfInBounds_toArray, List.set_cons_zero, List.set_cons_succ]))
      (refine q_take ?_ (by kernel_rfl) ?_ ?_; rotate_left; (· intro w' hS; have d0 := (HFr.out.trans' hS).cell E0.out not_false; have d1 := (HFr.out.trans' hS).cell E1.out not_false; have d2 := (HFr.out.trans' hS).cell E2.out not_false; have d3 := (HFr.out.trans' hS).cell E3.out not_false; have d4 := (HFr.out.trans' hS).cell E4.out not_false; have d5 := (HFr.out.trans' hS).cell E5.out not_false; have d6 := (HFr.out.trans' hS).cell E6.out not_false; have d7 := (HFr.out.trans' hS).cell E7.out not_false; go_simp; try with_reducible rfl); try simp only [Act.put, List.setIfInBounds_toArray, List.set_cons_zero, List.set_cons_succ])
      iterate 3 (refine q_take ?_ (by kernel_rfl) ?_ ?_; rotate_left; (· intro w' hS; go_simp; try with_reducible rfl); (try simp only [Act.put, List.setIfInBounds_toArray, List.set_cons_zero, List.set_cons_succ]))
      (refine q_take ?_ (by kernel_rfl) ?_ ?_; rotate_left; (· intro w' hS; have d0 := (HFr.out.trans' hS).cell G0.out not_false; have d1 := (HFr.out.trans' hS).cell G1.out not_false; have d2 := (HFr.out.trans' hS).cell G2.out not_false; have d3 := (HFr.out.trans' hS).cell G3.out not_false; have d4 := (HFr.out.trans' hS).cell G4.out not_false; have d5 := (HFr.out.trans' hS).cell G5.out not_false; have d6 := (HFr.out.trans' hS).cell G6.out not_false; have d7 := (HFr.out.trans' hS).cell G7.out not_false; go_simp; try with_reducible rfl); try simp only [Act.put, List.setIfInBounds_toArray, List.set_cons_zero, List.set_cons_succ])
      (refine q_call ?_ ?_ (by kernel_rfl) ?_ ?_; rotate_left 2; (· intro w' hS; go_simp; first | with_reducible rfl | (constructor <;> with_reducible rfl)); (refine ⟨_, fun w' hw => (HC.out w' _ _ (HV.out.frame (HFr.out.trans' hw) (fun _ _ => id)) (HV'.out.frame (HFr.out.trans' hw) (fun _ _ => id))).mono fun _ _ h => ⟨h.1, hw.trans' h.2⟩, ?_⟩); (try simp only [Act.put, List.setIfInBounds_toArray, List.set_cons_zero, List.set_cons_succ]))
      (refine q_take ?_ (by kernel_rfl) ?_ ?_; rotate_left; (· intro w' hS; go_simp; try with_reducible rfl); (try simp only [Act.put, List.setIfInBounds_toArray, List.set_cons_zero, List.set_cons_succ]))
      refine q_end (fun w' hw => ?_)
      have HE := hid (HFr.out.trans' hw)
      clear hw
      go_wp2
      go_roundw
      case rel => exact ⟨k + 1, by omega, by go_num, HE.out⟩
      case measure => simp [intOf]; omega
    · go_wp2
      go_ret
      exact ⟨rfl, hf⟩


set_option maxHeartbeats 1600000 in
theorem nsame_refl : ∀ (N : Nat) (x : Nd), x.sz ≤ N → ∀ (D E : Nat → Prop) (w : World) (u u' : Array Value), NIn D w x u → NIn E w x u' →
    Calls Tryd.prog 26 #[.agg u, .agg u'] w fun e w' => e = .returned (.bool true) ∧ Fr (fun _ => False) w w' := by
  intro N
  induction N with
  | zero =>
    intro x h
    rw [Nd.sz_eq] at h
    omega
  | succ N ih =>
    intro x hN D E w u u' h h'
    have hs := Nd.sz_eq x
    obtain ⟨va, v, rfl, hX, hL⟩ := h.open
    obtain ⟨va', v', rfl, hX', hL'⟩ := h'.open
    have hcall := nsames_of N ih x.l (by omega) D E
    obtain ⟨a1, c1, us1, rfl, -⟩ := id hX
    obtain ⟨a1', c1', us1', rfl, -⟩ := id hX'
    obtain ⟨a, cap, us, rfl, -⟩ := id hL
    obtain ⟨a', cap', us', rfl, -⟩ := id hL'
    have hval := rsame_refl x.v.size x.v (Nat.le_refl _) D E
    have hxv : VIn D w x.v #[.int .i64 x.v.k, .int .i64 x.v.n, .string x.v.s, .slice a1 x.v.l.length c1] := by
      have := hX.close x.v.k x.v.n x.v.s
      have e : x.v = .mk x.v.k x.v.n x.v.s x.v.l := by cases x.v; rfl
      rw [← e] at this; exact this
    have hxv' : VIn E w x.v #[.int .i64 x.v.k, .int .i64 x.v.n, .string x.v.s, .slice a1' x.v.l.length c1'] := by
      have := hX'.close x.v.k x.v.n x.v.s
      have e : x.v = .mk x.v.k x.v.n x.v.s x.v.l := by cases x.v; rfl
      rw [← e] at this; exact this
    have HV := hid hval; have HX := hid hxv; have HX' := hid hxv'
    clear hval hxv hxv' hX hX'
    generalize x.op = oo at *
    generalize x.ln = nn at *
    generalize x.s = ss at *
    generalize x.v.k = vk at *
    generalize x.v.n = vn at *
    generalize x.v.s = vs at *
    generalize x.v.l.length = vl at *
    generalize x.l = l at *
    have q1 : (oo == oo) = true := by simp
    have q2 : (nn == nn) = true := by simp
    have q3 : (ss.toList == ss.toList) = true := by simp
    have HL := hid hL; have HL' := hid hL'; have HC := hid hcall
    clear hL hL' hcall hs hN h h'
    have hF : Fr (fun _ => False) w ((w.alloc (.cells #[.int .i64 oo, .int .i64 nn, .string ss, .int .i64 vk, .int .i64 vn, .string vs, .slice a1 vl c1, .slice a l.length cap] 29)).alloc (.cells #[.int .i64 oo, .int .i64 nn, .string ss, .int .i64 vk, .int .i64 vn, .string vs, .slice a1' vl c1', .slice a' l.length cap'] 29)) := ((Fr.refl _ _).alloc _).alloc _
    have hb2 : ((w.alloc (.cells #[.int .i64 oo, .int .i64 nn, .string ss, .int .i64 vk, .int .i64 vn, .string vs, .slice a1 vl c1, .slice a l.length cap] 29)).alloc (.cells #[.int .i64 oo, .int .i64 nn, .string ss, .int .i64 vk, .int .i64 vn, .string vs, .slice a1' vl c1', .slice a' l.length cap'] 29)).heap[w.heap.size]? = some (.cells #[.int .i64 oo, .int .i64 nn, .string ss, .int .i64 vk, .int .i64 vn, .string vs, .slice a1 vl c1, .slice a l.length cap] 29) := ((Fr.refl (fun _ => False) _).alloc _).heap (heap_alloc_new w _) not_false
    have hb3 : ((w.alloc (.cells #[.int .i64 oo, .int .i64 nn, .string ss, .int .i64 vk, .int .i64 vn, .string vs, .slice a1 vl c1, .slice a l.length cap] 29)).alloc (.cells #[.int .i64 oo, .int .i64 nn, .string ss, .int .i64 vk, .int .i64 vn, .string vs, .slice a1' vl c1', .slice a' l.length cap'] 29)).heap[w.heap.size + 1]? = some (.cells #[.int .i64 oo, .int .i64 nn, .string ss, .int .i64 vk, .int .i64 vn, .string vs, .slice a1' vl c1', .slice a' l.length cap'] 29) := by
      have := heap_alloc_new (w.alloc (.cells #[.int .i64 oo, .int .i64 nn, .string ss, .int .i64 vk, .int .i64 vn, .string vs, .slice a1 vl c1, .slice a l.length cap] 29)) (.cells #[.int .i64 oo, .int .i64 nn, .string ss, .int .i64 vk, .int .i64 vn, .string vs, .slice a1' vl c1', .slice a' l.length cap'] 29)
      simpa using this
    go_enter Tryd.func26, Tryd.ntmps26
    go_upto_region 1 with fail
    generalize (w.alloc (.cells #[.int .i64 oo, .int .i64 nn, .string ss, .int .i64 vk, .int .i64 vn, .string vs, .slice a1 vl c1, .slice a l.length cap] 29)).alloc (.cells #[.int .i64 oo, .int .i64 nn, .string ss, .int .i64 vk, .int .i64 vn, .string vs, .slice a1' vl c1', .slice a' l.length cap'] 29) = W at *
    have d0 : W.cell? ⟨w.heap.size, 0, none⟩ = some (.int .i64 oo) := by rw [cell_of_row W _ 0 _ _ _ hb2]; rfl
    have d1 : W.cell? ⟨w.heap.size, 1, none⟩ = some (.int .i64 nn) := by rw [cell_of_row W _ 1 _ _ _ hb2]; rfl
    have d2 : W.cell? ⟨w.heap.size, 2, none⟩ = some (.string ss) := by rw [cell_of_row W _ 2 _ _ _ hb2]; rfl
    have d3 : W.cell? ⟨w.heap.size, 3, none⟩ = some (.int .i64 vk) := by rw [cell_of_row W _ 3 _ _ _ hb2]; rfl
    have d4 : W.cell? ⟨w.heap.size, 4, none⟩ = some (.int .i64 vn) := by rw [cell_of_row W _ 4 _ _ _ hb2]; rfl
    have d5 : W.cell? ⟨w.heap.size, 5, none⟩ = some (.string vs) := by rw [cell_of_row W _ 5 _ _ _ hb2]; rfl
    have d6 : W.cell? ⟨w.heap.size, 6, none⟩ = some (.slice a1 vl c1) := by rw [cell_of_row W _ 6 _ _ _ hb2]; rfl
    have d7 : W.cell? ⟨w.heap.size, 7, none⟩ = some (.slice a l.length cap) := by rw [cell_of_row W _ 7 _ _ _ hb2]; rfl
    have g0 : W.cell? ⟨w.heap.size + 1, 0, none⟩ = some (.int .i64 oo) := by rw [cell_of_row W _ 0 _ _ _ hb3]; rfl
    have g1 : W.cell? ⟨w.heap.size + 1, 1, none⟩ = some (.int .i64 nn) := by rw [cell_of_row W _ 1 _ _ _ hb3]; rfl
    have g2 : W.cell? ⟨w.heap.size + 1, 2, none⟩ = some (.string ss) := by rw [cell_of_row W _ 2 _ _ _ hb3]; rfl
    have g3 : W.cell? ⟨w.heap.size + 1, 3, none⟩ = some (.int .i64 vk) := by rw [cell_of_row W _ 3 _ _ _ hb3]; rfl
    have g4 : W.cell? ⟨w.heap.size + 1, 4, none⟩ = some (.int .i64 vn) := by rw [cell_of_row W _ 4 _ _ _ hb3]; rfl
    have g5 : W.cell? ⟨w.heap.size + 1, 5, none⟩ = some (.string vs) := by rw [cell_of_row W _ 5 _ _ _ hb3]; rfl
    have g6 : W.cell? ⟨w.heap.size + 1, 6, none⟩ = some (.slice a1' vl c1') := by rw [cell_of_row W _ 6 _ _ _ hb3]; rfl
    have g7 : W.cell? ⟨w.heap.size + 1, 7, none⟩ = some (.slice a' l.length cap') := by rw [cell_of_row W _ 7 _ _ _ hb3]; rfl
    have HF := hid hF; have H2 := hid hb2; have H3 := hid hb3
    clear hF hb2 hb3
    go_wp2_with fail
    refine (HC.out _ _ _ (HL.out.frame HF.out fun _ _ => id) (HL'.out.frame HF.out fun _ _ => id)).mono ?_
    rintro e w2 ⟨rfl, hf2⟩
    replace d0 := hf2.cell d0 not_false
    replace d1 := hf2.cell d1 not_false
    replace d2 := hf2.cell d2 not_false
    replace d3 := hf2.cell d3 not_false
    replace d4 := hf2.cell d4 not_false
    replace d5 := hf2.cell d5 not_false
    replace d6 := hf2.cell d6 not_false
    replace d7 := hf2.cell d7 not_false
    replace g0 := hf2.cell g0 not_false
    replace g1 := hf2.cell g1 not_false
    replace g2 := hf2.cell g2 not_false
    replace g3 := hf2.cell g3 not_false
    replace g4 := hf2.cell g4 not_false
    replace g5 := hf2.cell g5 not_false
    replace g6 := hf2.cell g6 not_false
    replace g7 := hf2.cell g7 not_false
    have HF2 := hid (HF.out.trans' hf2)
    clear hf2
    go_wp2_with fail
    refine (HV.out _ _ _ (HX.out.frame HF2.out fun _ _ => id) (HX'.out.frame HF2.out fun _ _ => id)).mono ?_
    rintro e w3 ⟨rfl, hf3⟩
    replace d0 := hf3.cell d0 not_false
    replace d1 := hf3.cell d1 not_false
    replace d2 := hf3.cell d2 not_false
    replace d3 := hf3.cell d3 not_false
    replace d4 := hf3.cell d4 not_false
    replace d5 := hf3.cell d5 not_false
    replace d6 := hf3.cell d6 not_false
    replace d7 := hf3.cell d7 not_false
    replace g0 := hf3.cell g0 not_false
    replace g1 := hf3.cell g1 not_false
    replace g2 := hf3.cell g2 not_false
    replace g3 := hf3.cell g3 not_false
    replace g4 := hf3.cell g4 not_false
    replace g5 := hf3.cell g5 not_false
    replace g6 := hf3.cell g6 not_false
    replace g7 := hf3.cell g7 not_false
    have HF3 := hid (HF2.out.trans' hf3)
    clear hf3
    go_wp2
    go_ret
    exact ⟨rfl, HF3.out⟩
theorem nsames_refl (l : List Nd) (D E : Nat → Prop) (w : World) (v v' : Value) (h : NL D w l v) (h' : NL E w l v') : Calls Tryd.prog 19 #[v, v'] w fun e w' => e = .returned (.bool true) ∧ Fr (fun _ => False) w w' :=
  nsames_of (szL l) (nsame_refl (szL l)) l (Nat.le_refl _) D E w v v' h h'
end
section
open Go.RowKit

/-- The wide fence, of activations of functions (none) or of the rounds of the loop l (some l). -/
abbrev Wd (ro : Option Nat) : Fence := { Fence.wide with round := ro }
theorem wd_none : Wd none = Fence.wide := rfl
theorem calls_wd {ro : Option Nat} {n : Nat} {P : Program} {f : FuncId} {args : Array Value} {w : World} {R : Ending → World → Prop} (h : Calls P f args w R) : CallsIn (Wd ro) n P f args w R := (callsIn_wide (n := n)).2 h
theorem rows_wd {ro : Option Nat} {n : Nat} {P : Program} {row : String} {args : Array Value} {w : World} {R : Value → World → Prop} (h : Rows P row args w R) : RowsIn (Wd ro) n P row args w R :=
  fun c cs _ => let ⟨v, w', r, s⟩ := h c cs; ⟨v, w', r, stepsIn_wide.2 s⟩
def noDefer (o : Oper) : Bool := match o.op with | .defer _ => false | _ => true
theorem noDefer_spec {o : Oper} (h : noDefer o = true) : ∀ c, o.op ≠ .defer c := fun c e => by unfold noDefer at h; rw [e] at h; cases h
theorem opIn_of {ro : Option Nat} {n : Nat} {P : Program} {o : Oper} {a : Act} {w : World} {K : Act → World → Prop} {Q : Exit → Act → World → Prop} (hd : noDefer o = true) (h : o.wp P a w K Q) : o.wpIn (Wd ro) n P a w K Q := by
  unfold Oper.wpIn
  refine ⟨fun _ _ => trivial, ?_⟩
  have e : o.semAt (Wd ro).round a.eval = execOp a.eval o := Oper.semAt_eq _ _ _ (noDefer_spec hd)
  rw [e]
  unfold Oper.wp at h
  generalize (execOp a.eval o).run P w = r at *
  cases r with
  | ok x w' =>
    cases x <;> simp only [Oper.upon, Oper.uponIn] at h ⊢ <;>
      first
        | exact h
        | exact ⟨fun h => by simp [Wd, Fence.wide] at h, calls_wd h⟩
        | exact ⟨fun h => by simp [Wd, Fence.wide] at h, rows_wd h⟩
  | halt x w' => cases x <;> simp only [Oper.upon, Oper.uponIn] at h ⊢ <;> exact h
section
variable {ro : Option Nat} {n : Nat} {P : Program} {ops : Array Oper} {Q : Exit → Act → World → Prop}
theorem wpOpIn_of (hQ : ∀ a w, ¬ Q .outgrown a w) (hd : ∀ (i : Nat) (o : Oper), ops[i]? = some o → noDefer o = true) {i : Nat} {K : Act → World → Prop} {a : Act} {w : World} (h : wpOp P ops Q i K a w) : wpOpIn (Wd ro) n P ops Q i K a w := by
  unfold wpOp at h
  unfold wpOpIn
  cases ho : ops[i]? with
  | none => rw [ho] at h; exact h
  | some o =>
    rw [ho] at h
    simp only at h ⊢
    split
    · rename_i hw
      rw [if_pos hw] at h
      rcases h with h | ⟨-, a', w', h⟩
      · exact opIn_of (hd i o ho) h
      · exact absurd h (hQ a' w')
    · rename_i hw
      rw [if_neg hw] at h
      exact ⟨fun _ _ => trivial, h⟩
theorem wpAnyIn_of (hQ : ∀ a w, ¬ Q .outgrown a w) (hd : ∀ (i : Nat) (o : Oper), ops[i]? = some o → noDefer o = true) : ∀ (fuel : Nat) (listed : Array Bool) (a : Act) (w : World), wpAny P .any ops Q fuel listed a w → wpAnyIn (Wd ro) n P .any ops Q fuel listed a w
  | 0, _, _, _, h => h
  | fuel + 1, _, _, _, h => ⟨h.1, fun i hi => wpOpIn_mono (fun a' w' h' => wpAnyIn_of hQ hd fuel _ a' w' h') (wpOpIn_of hQ hd (h.2 i hi))⟩
theorem wpListIn_of (hQ : ∀ a w, ¬ Q .outgrown a w) : ∀ (r : List Oper) (a : Act) (w : World), r.all noDefer = true → wpList P ops Q r a w → wpListIn (Wd ro) n P ops Q r a w
  | [], _, _, _, h => h
  | o :: r, a, w, hd, h => by
    rw [List.all_cons, Bool.and_eq_true] at hd
    unfold wpList at h
    unfold wpListIn
    split
    · rename_i hw
      rw [if_pos hw] at h
      rcases h with h | ⟨-, a', w', h⟩
      · exact Oper.wpIn_mono (fun a' w' h' => wpListIn_of hQ r a' w' hd.2 h') (opIn_of hd.1 h)
      · exact absurd h (hQ a' w')
    · rename_i hw
      rw [if_neg hw] at h
      exact ⟨fun _ _ => trivial, wpListIn_of hQ r _ w hd.2 h⟩
theorem allOps_spec {l : List Oper} (h : l.all noDefer = true) : ∀ (i : Nat) (o : Oper), l.toArray[i]? = some o → noDefer o = true := fun i o hi => by
  rw [List.getElem?_toArray] at hi
  exact List.all_eq_true.1 h o (List.mem_of_getElem? hi)
/-- A region of a round's body that does not draw: it is walked in the plain calculus. -/
theorem rd_region {id : Nat} {l : List Oper} {a : Act} {w : World} (hQ : ∀ a w, ¬ Q .outgrown a w) (hd : l.all noDefer = true) (h : wpList P l.toArray Q l a w) : (Code.region id l.toArray false).wpIn (Wd ro) n P Q a w :=
  wpIn_region_lit (wpListIn_of hQ l a w hd h)
/-- One that draws, all of it quiet. -/
theorem rd_region_cls {id : Nat} {l : List Oper} {a : Act} {w : World} (C : World → Prop) (hm : P.follows .mixedOrders = true) (hB : Region.lexB .any l.toArray = true) (hC : C w.drew) (hQ : ∀ a w, ¬ Q .outgrown a w) (hd : l.all noDefer = true)
    (h : wpQuiet P l.toArray C (fun a' => ∀ w', C w' → Q .normal a' w') l a) : (Code.region id l.toArray true).wpIn (Wd ro) n P Q a w := by
  refine wpIn_region_any hm (wpAnyIn_of hQ (allOps_spec hd) _ _ _ _ ?_)
  simp only [Region.lexB, Bool.and_eq_true] at hB
  refine wpAny_of_quiet (Q := fun a' => ∀ w', C w' → Q .normal a' w') (fun _ w' hw' h => h w' hw') _ _ _ _ hC ?_
  have := wpAnyQ_lex (C := C) (md := .any) hB.1 l 0 (Array.replicate l.toArray.size false) a (by simp) (by simpa using hB.2) h
  simpa using this
/-- One that draws, in the order that is told. -/
theorem rd_region_ord {id : Nat} {a : Act} {w : World} {l : List Oper} (ord : List (Nat × Nat)) (S : World → Prop) (hm : P.follows .mixedOrders = true) (hs : Region.noSelect l.toArray = true)
    (hc : okO ((ord.filter fun p => p.2 == 0).map Prod.fst) l.toArray ord (Array.replicate l.length false) = true) (hn : lenO ord = l.length) (hQ : ∀ c a d v w, Q (.panic c) (Act.put a d v) w → Q (.panic c) a w)
    (hS : S w.drew) (hO : ∀ a w, ¬ Q .outgrown a w) (hd : l.all noDefer = true) (h : wpO P ((ord.filter fun p => p.2 == 0).map Prod.fst) l.toArray Q ord S a w.drew) : (Code.region id l.toArray true).wpIn (Wd ro) n P Q a w := by
  refine wpIn_region_any hm (wpAnyIn_of hO (allOps_spec hd) _ _ _ _ (wpAny_of_F (tk := (ord.filter fun p => p.2 == 0).map Prod.fst) (S := S) _ _ _ _ ?_))
  have := wpO_sound hs hQ ord S (Array.replicate l.length false) a w.drew hc (.inl hS) h
  rw [hn] at this
  simpa using this
end
end
section
open Go.RowKit

theorem Fr.putObj {S : Nat → Prop} {a w : World} (h : Fr S a w) {r : Nat} (hr : S r ∨ a.heap.size ≤ r) (o : Obj) : Fr S a (w.putObj r o) :=
  ⟨h.os, h.tape, h.output, by simpa using h.size, fun i hi hu => (World.putObj_heap_other (fun e => by subst e; rcases hr with hr | hr; exact hu hr; omega)).trans (h.block i hi hu)⟩

theorem put1 (W : World) (B : Nat) (o : Obj) : Fr (fun k => k = B) W (W.putObj B o) := (Fr.refl (fun k => k = B) W).putObj (.inl rfl) o

/-- What an iterator promises: B0..B1 is its memory, l its loop's record; J is the loop's own invariant, G what it tells of the next value. -/
def IterL {α : Type} (P : Program) (gf : Nat) (lb : Array Value) (encs : α → Array Value) (lo : α → Nat) (B0 B1 : Nat) (G : List α → α → World → Prop) (S Sp : List α → Prop) (w0 : World) : Prop :=
  ∀ (l : Nat) (J Jx : List α → World → Prop) (W : World), Fr (fun _ => False) w0 W → B1 + 2 ≤ W.heap.size →
    (∀ pre X Y, J pre X → Fr (fun _ => False) X Y → J pre Y) → (∀ pre X Y, Jx pre X → Fr (fun _ => False) X Y → Jx pre Y) →
    (∀ pre x W1, J pre W1 → G pre x W1 → YieldAt (Wd none) 0 P l (encs x) W1 fun e W' => (e = .returned (.bool true) ∧ J (pre ++ [x]) W' ∧ Fr (fun k => k < B0 ∨ k = B1 ∨ k = B1 + 1 ∨ lo x ≤ k) W1 W') ∨ (e = .returned (.bool false) ∧ Jx (pre ++ [x]) W')) →
    J [] W → Calls P gf (#[.func (.yield l) #[] #[]] ++ lb) W fun e W' => (∃ v, e = .returned v) ∧ ((∃ xs, S xs ∧ J xs W') ∨ ∃ pre, Sp pre ∧ Jx pre W')

/-- How a round's body may be left. -/
def bodyL {α : Type} (B0 L : Nat) (I : List α → World → Prop) (Ix : Code → List α → World → Prop) (xs : List α) (W : World) : Exit → Act → World → Prop
  | .normal, _, W' => Fr (fun k => k < B0 ∨ L ≤ k) W W' ∧ I xs W'
  | .ret, _, W' => Fr (fun k => k < B0 ∨ L ≤ k) W W' ∧ Ix .ret xs W'
  | .exit id, _, W' => Fr (fun k => k < B0 ∨ L ≤ k) W W' ∧ Ix (.exit id) xs W'
  | .goto t, _, W' => Fr (fun k => k < B0 ∨ L ≤ k) W W' ∧ Ix (.goto t) xs W'
  | .panic _, _, _ => False
  | .outgrown, _, _ => False

theorem range_lo {α : Type} {P : Program} {g : Operand} {ps : Array Tmp} {assign body : Code} {Q : Exit → Act → World → Prop} {a : Act} {w : World}
    {gf : Nat} {lb : Array Value} (hg : a.eval g = .func (.func gf) #[] lb) (eg : ∀ args w, (callFunc gf args).run P w = .ok (.enter gf args) w)
    {encs : α → Array Value} {lo : α → Nat} {B0 : Nat} (hB0 : B0 ≤ w.heap.size) {G : List α → α → World → Prop} {S Sp : List α → Prop} (hps : ∀ x, (encs x).size = ps.size)
    (hseq : IterL P gf lb encs lo B0 w.heap.size G S Sp w) (hlo : ∀ pre x W, G pre x W → w.heap.size + 2 ≤ lo x)
    (I : List α → World → Prop) (Ix : Code → List α → World → Prop)
    (hI : ∀ pre X Y, w.heap.size + 1 < X.heap.size ∨ X = w → I pre X → Fr (fun k => k = w.heap.size + 1) X Y → I pre Y) (hIx : ∀ c pre X Y, Ix c pre X → Fr (fun k => k = w.heap.size + 1) X Y → Ix c pre Y)
    (h0 : I [] w)
    (hround : ∀ (l : Nat) (pre : List α) (x : α) (W : World), I pre W → G pre x W → w.heap.size + 2 ≤ W.heap.size →
      assign.wpIn (Wd (some l)) 0 P (Exit.then (fun a₁ w₁ => Fr (fun _ => False) W w₁ ∧ ∀ w₂, Fr (fun k => k = w.heap.size + 1) w₁ w₂ → w₂.heap.size = w₁.heap.size → body.wpIn (Wd (some l)) 0 P (bodyL B0 (lo x) I Ix (pre ++ [x]) w₂) a₁ w₂) (fun _ _ _ => False))
        { tmps := (ps.zip (encs x)).foldl (fun t (p, v) => t.setIfInBounds p v) a.tmps, defers := [] } W)
    (hdone : ∀ (xs : List α) (W : World), S xs → I xs W → w.heap.size + 2 ≤ W.heap.size → W.heap[w.heap.size]? = some (.deferred (some [])) → Q .normal { a with defers := { target := .collected w.heap.size, args := #[] } :: a.defers } W)
    (hstop : ∀ (c : Code) (pre : List α) (W : World), Sp pre → Ix c pre W → w.heap.size + 2 ≤ W.heap.size → W.heap[w.heap.size]? = some (.deferred (some [])) → c.wp P Q { a with defers := { target := .collected w.heap.size, args := #[] } :: a.defers } W) :
    (Code.rangeFunc g ps assign body).wp P Q a w := by
  refine (wpIn_wide (n := 0)).1 (wpIn_rangeFunc ?_)
  intro fn _
  obtain ⟨rec, hrec⟩ : ∃ rec : LoopState → Option Code → Loop, rec = fun st pe => { state := st, pending := pe, fn, tmps := a.tmps, params := ps, assign, body, defers := w.heap.size } := ⟨_, rfl⟩
  obtain ⟨W1, hW1⟩ : ∃ W1, (w.alloc (.deferred (some []))).alloc (.loop (rec .ready none)) = W1 := ⟨_, rfl⟩
  have hf1 : Fr (fun _ => False) w W1 := by rw [← hW1]; exact ((Fr.refl _ _).alloc _).alloc _
  have hs1 : W1.heap.size = w.heap.size + 2 := by rw [← hW1]; simp
  have hL1 : W1.heap[w.heap.size + 1]? = some (.loop (rec .ready none)) := by
    rw [← hW1]; have := heap_alloc_new (w.alloc (.deferred (some []))) (.loop (rec .ready none)); rwa [World.size_alloc] at this
  have hK1 : W1.heap[w.heap.size]? = some (.deferred (some [])) := by
    rw [← hW1]; exact ((Fr.refl (fun _ => False) (w.alloc (.deferred (some [])))).alloc _).heap (heap_alloc_new w _) id
  have hI1 : I [] W1 := hI _ _ _ (.inr rfl) h0 (hf1.mono fun _ _ h => h.elim)
  refine ⟨w.heap.size + 1, [{ target := .collected w.heap.size, args := #[] }], W1, { target := .fn (.func gf) lb, args := #[.func (.yield (w.heap.size + 1)) #[] #[]] }, W1, gf,
    #[.func (.yield (w.heap.size + 1)) #[] #[]] ++ lb, W1, ?_, ?_, fun _ _ => trivial, ?_, fun h => by simp [Fence.wide] at h, ?_⟩
  · rw [← hW1, hrec]; exact run_enterLoop_outer _ _ _ _ _
  · simp only [resolve, hg]
    simp [go_sem]
  · simp [invoke, go_sem, eg]
  · refine callsIn_wide.2 ((hseq (w.heap.size + 1)
      (fun pre W => I pre W ∧ w.heap.size + 2 ≤ W.heap.size ∧ W.heap[w.heap.size + 1]? = some (.loop (rec .ready none)) ∧ W.heap[w.heap.size]? = some (.deferred (some [])))
      (fun pre W => ∃ c, Ix c pre W ∧ w.heap.size + 2 ≤ W.heap.size ∧ W.heap[w.heap.size + 1]? = some (.loop (rec .done (some c))) ∧ W.heap[w.heap.size]? = some (.deferred (some [])))
      W1 hf1 (by omega) (fun pre X Y h hf => ⟨hI _ _ _ (.inl (by omega)) h.1 (hf.mono fun _ _ h => h.elim), Nat.le_trans h.2.1 hf.size, hf.heap h.2.2.1 id, hf.heap h.2.2.2 id⟩)
      (fun pre X Y ⟨c, h⟩ hf => ⟨c, hIx _ _ _ _ h.1 (hf.mono fun _ _ h => h.elim), Nat.le_trans h.2.1 hf.size, hf.heap h.2.2.1 id, hf.heap h.2.2.2 id⟩)
      ?_ ⟨hI1, by omega, hL1, hK1⟩).mono ?_)
    · rintro pre x W ⟨hi, hsz, hl, hk⟩ hgx
      have hlx := hlo _ _ _ hgx
      have hy := run_yield (P := P) (args := encs x) hl (by rw [hrec]; exact hps x)
      rw [hrec] at hy
      refine ⟨fn, _, assign, body, hy, roundIn_of_wpIn trivial (wpIn_mono (hround _ pre x W hi hgx hsz) ?_)⟩
      intro e a₁ w₁ h
      cases e with
      | normal =>
        obtain ⟨hf, hb⟩ := h
        have hl1 := hf.heap hl id
        have hk1 := hf.heap hk id
        have hlt : w.heap.size + 1 < w₁.heap.size := heap_lt hl1
        have hl2 : (w₁.putObj (w.heap.size + 1) (.loop { rec .ready none with state := .busy })).heap[w.heap.size + 1]? = some (.loop { rec .ready none with state := .busy }) := World.putObj_heap_same hlt
        have hk2 : (w₁.putObj (w.heap.size + 1) (.loop { rec .ready none with state := .busy })).heap[w.heap.size]? = some (.deferred (some [])) := (World.putObj_heap_other (show w.heap.size ≠ w.heap.size + 1 by omega)).trans hk1
        refine ⟨_, run_beginRound hl1 (by rw [hrec]), wpIn_mono (hb _ (put1 _ _ _) (by simp)) ?_⟩
        have fin : ∀ (jump : Option Code) (W3 : World), Fr (fun k => k < B0 ∨ lo x ≤ k) (w₁.putObj (w.heap.size + 1) (.loop { rec .ready none with state := .busy })) W3 →
            (Instr.endRound (w.heap.size + 1) jump).run P W3 = .ok (.bool jump.isNone) (W3.putObj (w.heap.size + 1) (.loop (rec (if jump.isNone then .ready else .done) jump))) ∧
            w.heap.size + 2 ≤ (W3.putObj (w.heap.size + 1) (.loop (rec (if jump.isNone then .ready else .done) jump))).heap.size ∧ w.heap.size + 1 < W3.heap.size ∧
            (W3.putObj (w.heap.size + 1) (.loop (rec (if jump.isNone then .ready else .done) jump))).heap[w.heap.size + 1]? = some (.loop (rec (if jump.isNone then .ready else .done) jump)) ∧
            (W3.putObj (w.heap.size + 1) (.loop (rec (if jump.isNone then .ready else .done) jump))).heap[w.heap.size]? = some (.deferred (some [])) := fun jump W3 hf3 => by
          have hl3 := hf3.heap hl2 (by omega)
          have hk3 := hf3.heap hk2 (by omega)
          have := run_endRound (P := P) jump hl3
          rw [hrec] at this ⊢
          have hlt3 := heap_lt hl3
          exact ⟨this, by simp; omega, hlt3, World.putObj_heap_same hlt3, (World.putObj_heap_other (show w.heap.size ≠ w.heap.size + 1 by omega)).trans hk3⟩
        rintro e a3 W3 hp
        cases e with
        | normal =>
          obtain ⟨hf3, hi3⟩ := hp
          obtain ⟨hr, hs4, hlt3, hl4, hk4⟩ := fin none W3 hf3
          refine ⟨_, _, hr, .inl ⟨rfl, ⟨hI _ _ _ (.inl hlt3) hi3 (put1 _ _ _), hs4, hl4, hk4⟩, ?_⟩⟩
          refine Fr.putObj ?_ (.inl (.inr (.inr (.inl rfl)))) _
          refine ((hf.mono (T := fun k => k < B0 ∨ k = w.heap.size ∨ k = w.heap.size + 1 ∨ lo x ≤ k) fun _ _ h => h.elim).trans' ((Fr.refl _ _).putObj (.inl (.inr (.inr (.inl rfl)))) _)).trans hf3 (fun _ _ h => h) (fun k _ h => by rcases h with h | h; exact .inl h; exact .inr (.inr (.inr h)))
        | ret =>
          obtain ⟨hf3, hi3⟩ := hp
          obtain ⟨hr, hs4, -, hl4, hk4⟩ := fin (some .ret) W3 hf3
          exact ⟨_, _, hr, .inr ⟨rfl, .ret, hIx _ _ _ _ hi3 (put1 _ _ _), hs4, hl4, hk4⟩⟩
        | exit id =>
          obtain ⟨hf3, hi3⟩ := hp
          obtain ⟨hr, hs4, -, hl4, hk4⟩ := fin (some (.exit id)) W3 hf3
          exact ⟨_, _, hr, .inr ⟨rfl, .exit id, hIx _ _ _ _ hi3 (put1 _ _ _), hs4, hl4, hk4⟩⟩
        | goto t =>
          obtain ⟨hf3, hi3⟩ := hp
          obtain ⟨hr, hs4, -, hl4, hk4⟩ := fin (some (.goto t)) W3 hf3
          exact ⟨_, _, hr, .inr ⟨rfl, .goto t, hIx _ _ _ _ hi3 (put1 _ _ _), hs4, hl4, hk4⟩⟩
        | panic ch => exact hp.elim
        | outgrown => exact hp.elim
      | exit id => exact h.elim
      | goto t => exact h.elim
      | ret => exact h.elim
      | panic ch => exact h.elim
      | outgrown => exact h.elim
    · rintro e W3 ⟨⟨v, rfl⟩, h⟩
      rcases h with ⟨xs, hs, hi, hsz, hl, hk⟩ | ⟨pre, hs, c, hi, hsz, hl, hk⟩
      · have hlt := heap_lt hl
        have he : (Instr.endLoop (w.heap.size + 1)).run P W3 = .ok none (W3.putObj (w.heap.size + 1) (.loop { rec .ready none with state := .exhausted })) := by
          have := run_endLoop (P := P) hl (by rw [hrec]; simp)
          rw [hrec] at this ⊢
          exact this
        exact ⟨none, _, he, hdone xs _ hs (hI _ _ _ (.inl hlt) hi (put1 _ _ _)) (by simpa using hsz) ((World.putObj_heap_other (show w.heap.size ≠ w.heap.size + 1 by omega)).trans hk)⟩
      · have he : (Instr.endLoop (w.heap.size + 1)).run P W3 = .ok (some c) (W3.putObj (w.heap.size + 1) (.loop { rec .done (some c) with state := .exhausted })) := by
          have := run_endLoop (P := P) hl (by rw [hrec]; simp)
          rw [hrec] at this ⊢
          exact this
        exact ⟨some c, _, he, wpIn_wide.2 (hstop c pre _ hs (hIx _ _ _ _ hi (put1 _ _ _)) (by simpa using hsz) ((World.putObj_heap_other (show w.heap.size ≠ w.heap.size + 1 by omega)).trans hk))⟩
/-- A box. -/
def Bx (W : World) (B : Nat) (t : TypeId) (v : Value) : Prop := W.heap[B]? = some (.cells #[v] t (0, 0))
theorem Bx.cell {W : World} {B : Nat} {t : TypeId} {v : Value} (h : Bx W B t v) : W.cell? ⟨B, 0, none⟩ = some v := by rw [cell_of_row _ _ 0 _ _ _ h]; rfl
theorem Bx.frozen {W : World} {B : Nat} {t : TypeId} {v : Value} (h : Bx W B t v) : W.frozen? ⟨B, 0, none⟩ = false := by
  unfold Bx at h
  simp [World.frozen?, h]
theorem Bx.set {W : World} {B : Nat} {t : TypeId} {v : Value} (h : Bx W B t v) (u : Value) : Bx (W.setCell ⟨B, 0, none⟩ u) B t u := by
  unfold Bx at *
  simp only [World.setCell, Array.getElem?_modify, if_pos, h, Option.map_some]
  rfl
theorem Bx.other {W : World} {B C : Nat} {t : TypeId} {v : Value} (h : Bx W B t v) (u : Value) (hne : B ≠ C) : Bx (W.setCell ⟨C, 0, none⟩ u) B t v :=
  ((Fr.refl (fun k => k = C) W).setCell (.inl rfl) u).heap h hne
theorem Bx.fr {W W' : World} {B : Nat} {t : TypeId} {v : Value} {S : Nat → Prop} (h : Bx W B t v) (hf : Fr S W W') (hS : ¬ S B) : Bx W' B t v := hf.heap h hS
theorem Bx.new (W : World) (t : TypeId) (v : Value) : Bx (W.alloc (.cells #[v] t)) W.heap.size t v := heap_alloc_new W _
theorem Bx.lt {W : World} {B : Nat} {t : TypeId} {v : Value} (h : Bx W B t v) : B < W.heap.size := heap_lt h
theorem results_cell1 {fn : Func} {t : Nat} (h : fn.results = #[.cell t 4]) {tmps : Array Value} {B : Nat} {w : World} {b : Bool} {tb : TypeId} (ht : tmps.getD t undef = .pointer (some ⟨B, 0, none⟩)) (hc : Bx w B tb (.bool b)) : (results fn tmps).run Tryd.prog w = .ok (.bool b) w := by
  have h1 := hc.cell
  have e : (results fn tmps) = (do let v ← (do loadVar 4 (← asAddr (tmps.getD t undef))); pure v) := by simp [results, h]
  rw [e, ht]
  simp [go_sem, h1, Tryd.isAgg4]
theorem leave0 {P : Program} {fn : Func} {tmps : Array Value} {R : Ending → World → Prop} {w : World} {v : Value} (hr : (results fn tmps).run P w = .ok v w) (h : R (.returned v) w) : LeavesInM Fence.wide 0 P fn tmps R [] .returning w := ⟨v, hr, h⟩
theorem leave_mark {P : Program} {fn : Func} {tmps : Array Value} {R : Ending → World → Prop} {W : World} {D : Nat} {ds : List Deferred} (hD : W.heap[D]? = some (.deferred (some []))) (h : LeavesInM Fence.wide 0 P fn tmps R ds .returning (W.putObj D (.deferred none))) : LeavesInM Fence.wide 0 P fn tmps R ({ target := .collected D, args := #[] } :: ds) .returning W :=
  ⟨by simp, .inl ⟨_, _, rfl, run_takeDeferred hD, h⟩⟩
end
section
open Go.RowKit

/-- All elements of a slice of several cells each appended; it may be nil, or empty. -/
theorem wp_appendNR {P : Program} {o : Oper} {a : Act} {w : World} {K : Act → World → Prop} {Q : Exit → Act → World → Prop} (s x : Operand) (t : TypeId)
    (ho : o.op = .call { callee := .builtin .append, args := #[s, x], argTypes := #[t, t] })
    (e : TypeId) (z : Value) (sz bytes : Nat) (ht : P.underlying t = some (.slice e)) (hrow : (P.info? e).map (fun i => (i.zero, i.size, i.bytes)) = some (some z, sz, bytes)) (hzs : z.cells.size = sz) (hsz0 : 0 < sz)
    (v : Value) (hs : a.eval s = v) (base n : Nat) (xs : List Value) (hown : w.ownsRow base e sz v n xs)
    (ao : Option Addr) (m c : Nat) (news : List Value) (hx : a.eval x = .slice ao m c) (hl : news.length = m * sz) (hn : ao = none → m = 0 ∧ c = 0)
    (hc : ∀ j, j < m * sz → ∃ b o, ao = some ⟨b, o, none⟩ ∧ w.cell? ⟨b, o + j, none⟩ = news[j]?) (hao : ∀ ad, ao = some ad → ∃ b o, ad = ⟨b, o, none⟩) (h1 : ∀ u ∈ news, u.oneCell' = true)
    (h63 : n + m ≤ 1099511627776) (hby : bytes ≤ 128) (hbase : base ≤ w.heap.size)
    (h : ∀ v' w', w'.ownsRow base e sz v' (n + m) (xs ++ news) → Fr (fun k => some k = v.ownBlock) w w' → K (a.put o.dst v') w') : o.wp P a w K Q := by
  obtain ⟨i, hi, hz, hsz, hbt⟩ := info_parts hrow
  have hb2 : (n + m) * bytes ≤ 140737488355328 := by
    have := Nat.mul_le_mul h63 hby
    omega
  have key : ∃ v' w', (Builtin.append_ #[t, t] o.type #[v, .slice ao m c]).run P w = .ok v' w' ∧ w'.ownsRow base e sz v' (n + m) (xs ++ news) ∧ w.grownBy w' v.ownBlock := by
    cases ao with
    | none =>
      obtain ⟨rfl, rfl⟩ := hn rfl
      have hnews : news = [] := List.eq_nil_of_length_eq_zero (by simpa using hl)
      subst hnews
      exact ⟨v, w, run_append_owned_none (P := P) w base t o.type e i sz ht hi v n xs hown, by simpa using hown, ⟨rfl, rfl, rfl, Nat.le_refl _, fun _ _ _ => rfl⟩⟩
    | some ad =>
      obtain ⟨b, oo, rfl⟩ := hao _ rfl
      have hcells : ∀ j y, news[j]? = some y → w.cell? ((⟨b, oo, none⟩ : Addr).add j) = some y := by
        intro j y hy
        have hj : j < m * sz := by rw [← hl]; exact (List.getElem?_eq_some_iff.1 hy).1
        obtain ⟨b', o', e, hcc⟩ := hc j hj
        simp only [Option.some.injEq, Addr.mk.injEq] at e
        obtain ⟨rfl, rfl, -⟩ := e
        have : (⟨b, oo, none⟩ : Addr).add j = ⟨b, oo + j, none⟩ := by unfold Addr.add; split <;> simp_all
        rw [this, hcc, hy]
      have hmx : n + m ≤ maxLen := by unfold maxLen; omega
      obtain ⟨v', w', hr, ho', hg, -⟩ := run_append_own (P := P) w base t o.type e i z sz bytes ht hi hz hsz hbt hzs hsz0 v n xs hown ⟨b, oo, none⟩ m c news hl hcells h1 hmx hb2 hbase
      exact ⟨v', w', hr, ho', hg⟩
  obtain ⟨v', w', hr, ho', hg⟩ := key
  unfold Oper.wp execOp
  simp only [ho, resolve, invoke, builtin, Sem.run_bind, Sem.run_pure, Result.andThen_ok, List.map_toArray, List.map_cons, List.map_nil, hs, hx, hr]
  exact h v' w' ho' (Fr.of_grownBy hg)
theorem wpList_appendNR {P : Program} {ops : Array Oper} {rest : List Oper} {o : Oper} {a : Act} {w : World} {Q : Exit → Act → World → Prop} (hgd : o.guard = none) (s x : Operand) (t : TypeId)
    (ho : o.op = .call { callee := .builtin .append, args := #[s, x], argTypes := #[t, t] })
    (e : TypeId) (z : Value) (sz bytes : Nat) (ht : P.underlying t = some (.slice e)) (hrow : (P.info? e).map (fun i => (i.zero, i.size, i.bytes)) = some (some z, sz, bytes)) (hzs : z.cells.size = sz) (hsz0 : 0 < sz)
    (v : Value) (hs : a.eval s = v) (base n : Nat) (xs : List Value) (hown : w.ownsRow base e sz v n xs)
    (ao : Option Addr) (m c : Nat) (news : List Value) (hx : a.eval x = .slice ao m c) (hl : news.length = m * sz) (hn : ao = none → m = 0 ∧ c = 0)
    (hc : ∀ j, j < m * sz → ∃ b o, ao = some ⟨b, o, none⟩ ∧ w.cell? ⟨b, o + j, none⟩ = news[j]?) (hao : ∀ ad, ao = some ad → ∃ b o, ad = ⟨b, o, none⟩) (h1 : ∀ u ∈ news, u.oneCell' = true)
    (h63 : n + m ≤ 1099511627776) (hby : bytes ≤ 128) (hbase : base ≤ w.heap.size)
    (h : ∀ v' w', w'.ownsRow base e sz v' (n + m) (xs ++ news) → Fr (fun k => some k = v.ownBlock) w w' → wpList P ops Q rest (a.put o.dst v') w') : wpList P ops Q (o :: rest) a w :=
  wpList_plain hgd fun _ hK => wp_appendNR s x t ho e z sz bytes ht hrow hzs hsz0 v hs base n xs hown ao m c news hx hl hn hc hao h1 h63 hby hbase fun v' w' h1 h2 => hK _ _ (h v' w' h1 h2)

mutual
/-- A node, then all below it. -/
def Nd.walk : Nd → List Nd
  | .mk op ln s v l => .mk op ln s v l :: walkL l
def walkL : List Nd → List Nd
  | [] => []
  | x :: r => Nd.walk x ++ walkL r
end
theorem Nd.walk_eq (x : Nd) : x.walk = x :: walkL x.l := by cases x; rw [Nd.walk]; rfl
theorem walkL_append (a b : List Nd) : walkL (a ++ b) = walkL a ++ walkL b := by
  induction a with
  | nil => simp [walkL]
  | cons x r ih => rw [List.cons_append, walkL, walkL, ih, List.append_assoc]
theorem walkL_take {l : List Nd} {k : Nat} {y : Nd} (h : l[k]? = some y) : walkL (l.take (k + 1)) = walkL (l.take k) ++ (y :: walkL y.l) := by
  rw [List.take_add_one, h, walkL_append]
  simp [walkL, Nd.walk_eq]
mutual
theorem Nd.walk_cnt : ∀ x : Nd, x.walk.length = x.cnt
  | .mk op ln s v l => by rw [Nd.walk, Nd.cnt, List.length_cons, walkL_cnt l]; omega
theorem walkL_cnt : ∀ l : List Nd, (walkL l).length = cntL l
  | [] => by rw [walkL, cntL]; rfl
  | x :: r => by rw [walkL, cntL, List.length_append, Nd.walk_cnt x, walkL_cnt r]
end
/-- A row of nodes' cells, each read in w0. -/
def WRow (D : Nat → Prop) (w0 : World) (L : List Nd) (ys : List Value) : Prop := ys.length = L.length * 8 ∧ ∀ i x, L[i]? = some x → ∃ u, NIn D w0 x u ∧ u.size = 8 ∧ ∀ j, j < 8 → ys[i * 8 + j]? = u[j]?
theorem WRow.nil (D : Nat → Prop) (w0 : World) : WRow D w0 [] [] := ⟨rfl, fun i x h => by simp at h⟩
theorem WRow.append {D : Nat → Prop} {w0 : World} {L M : List Nd} {ys zs : List Value} (h : WRow D w0 L ys) (k : WRow D w0 M zs) : WRow D w0 (L ++ M) (ys ++ zs) := by
  refine ⟨by rw [List.length_append, List.length_append, h.1, k.1, Nat.add_mul], fun i x hi => ?_⟩
  by_cases hlt : i < L.length
  · rw [List.getElem?_append_left hlt] at hi
    obtain ⟨u, h1, h2, h3⟩ := h.2 i x hi
    exact ⟨u, h1, h2, fun j hj => by rw [List.getElem?_append_left (by rw [h.1]; omega)]; exact h3 j hj⟩
  · rw [List.getElem?_append_right (by omega)] at hi
    obtain ⟨u, h1, h2, h3⟩ := k.2 _ x hi
    refine ⟨u, h1, h2, fun j hj => ?_⟩
    rw [List.getElem?_append_right (by rw [h.1]; omega), h.1, ← h3 j hj]
    congr 1
    omega
theorem WRow.one {D : Nat → Prop} {w0 : World} {x : Nd} {u : Array Value} (h : NIn D w0 x u) (hs : u.size = 8) : WRow D w0 [x] u.toList := by
  refine ⟨by simp [hs], fun i y hi => ?_⟩
  have h0 : i = 0 := by have := (List.getElem?_eq_some_iff.1 hi).1; simpa using this
  subst h0
  obtain rfl : x = y := by simpa using hi
  exact ⟨u, h, hs, fun j hj => by simp⟩
theorem NIn.one {D : Nat → Prop} {w : World} {x : Nd} {u : Array Value} (h : NIn D w x u) {j : Nat} {v : Value} (hj : u[j]? = some v) : v.oneCell' = true := by
  obtain ⟨va, vl, rfl, ⟨a, c, us, rfl, -⟩, ⟨a', c', us', rfl, -⟩⟩ := h.open
  have hm := Array.mem_of_getElem? hj
  simp only [List.mem_toArray, List.mem_cons, List.not_mem_nil, or_false] at hm
  rcases hm with rfl | rfl | rfl | rfl | rfl | rfl | rfl | rfl <;> rfl
/-- As a list of nodes. -/
theorem WRow.nl {D : Nat → Prop} {w0 w : World} {base : Nat} {L : List Nd} {ys : List Value} {v : Value} (h : WRow D w0 L ys) (ho : w.ownsRow base 29 8 v L.length ys) (hf : Fr (fun _ => False) w0 w) : NL (fun k => D k ∨ base ≤ k) w L v := by
  rcases ho.2 with ⟨rfl, h0⟩ | ⟨g, cap, cur, rfl, hb, hg, h1, h2, h3, h4⟩
  · obtain rfl := List.eq_nil_of_length_eq_zero h0
    exact NL.nil _ _
  · refine ⟨some ⟨g, 0, none⟩, cap, fun i => (cur.extract (i * 8) (i * 8 + 8)), rfl, h1, h2, (fun h => by cases h), fun i hi => ⟨g, 0, rfl, .inr hb, ?_, fun j hj => ?_⟩, fun i x hi => ?_⟩
    · simp; omega
    · rw [cell_of_row w g _ cur _ _ hg]
      simp [Array.getElem?_extract, hj]
      omega
    · obtain ⟨u, hu, hs, hc⟩ := h.2 i x hi
      have hil : i < L.length := (List.getElem?_eq_some_iff.1 hi).1
      have e : cur.extract (i * 8) (i * 8 + 8) = u := by
        apply Array.ext_getElem?
        intro j
        by_cases hj : j < 8
        · rw [← hc j hj, ← h4, List.getElem?_take, if_pos (by omega)]
          simp [Array.getElem?_extract, hj]
          intro _
          omega
        · rw [Array.getElem?_eq_none (by simp; omega), Array.getElem?_eq_none (by omega)]
      show NIn _ w x (cur.extract (i * 8) (i * 8 + 8))
      rw [e]
      exact (hu.frame hf fun _ _ => id).mono fun k _ hk => .inl hk

set_option maxRecDepth 100000 in
set_option maxHeartbeats 3200000 in
theorem walkd_of (N : Nat) (ih : ∀ (l : List Nd), cntL l < N → szL l ≤ 1048576 → ∀ (D : Nat → Prop) (w0 w : World) (v : Value), NL D w0 l v → Fr (fun _ => False) w0 w →
      Calls Tryd.prog 24 #[v] w fun e w' => ∃ v' ys, e = .returned v' ∧ w'.ownsRow w.heap.size 29 8 v' (walkL l).length ys ∧ WRow D w0 (walkL l) ys ∧ Fr (fun _ => False) w w') :
    ∀ (l : List Nd), cntL l < N + 1 → szL l ≤ 1048576 → ∀ (D : Nat → Prop) (w0 w : World) (v : Value), NL D w0 l v → Fr (fun _ => False) w0 w →
      Calls Tryd.prog 24 #[v] w fun e w' => ∃ v' ys, e = .returned v' ∧ w'.ownsRow w.heap.size 29 8 v' (walkL l).length ys ∧ WRow D w0 (walkL l) ys ∧ Fr (fun _ => False) w w' := by
  intro l hN hM D w0 w v h hf0
  have hcs := cntL_szL l
  have hll := len_le_cnt l
  obtain ⟨a, cap, us, rfl, hc, hm, hn, hb, hi⟩ := h
  have hlI : (l.length : Int) ≤ 1048576 := by omega
  have HB := hid hb; have HI := hid hi; have HN := hid hN; have HM := hid hM; have HIH := hid ih; have HCS := hid hcs; have HF0 := hid hf0
  clear hb hi hN hM hn hc hm ih hcs hll hf0
  go_enter Tryd.func24, Tryd.ntmps24
  go_wp2_with fail
  go_loopw [3, 4] (fun ov i wr => ∃ (k : Nat) (ys : List Value), k ≤ l.length ∧ i = .int .i64 k ∧ Hid (wr.ownsRow w.heap.size 29 8 ov (walkL (l.take k)).length ys) ∧ Hid (WRow D w0 (walkL (l.take k)) ys) ∧ Hid (∀ u ∈ ys, u.oneCell' = true) ∧ Fr (fun _ => False) w wr) (fun _ i _ => l.length - (intOf i).toNat)
  case atStart => exact ⟨0, [], Nat.zero_le _, rfl, hid (World.ownsRow_nil _ _ _ _), hid (WRow.nil _ _), hid (fun u h => by cases h), Fr.refl _ _⟩
  case round =>
    obtain ⟨k, ys, hk, rfl, HO, HW, HONE, hf⟩ := hrel
    obtain ⟨ao, oc, rfl, -⟩ := own_len HO.out
    by_cases hlt : k < l.length
    · obtain ⟨b, o, y, va, c1, a', c', rfl, -, hy, hv, e0, e1, e2, e3, e4, e5, e6, e7⟩ := NL.elem HB.out HI.out k hlt
      have hlt' : (k : Int) < l.length := by omega
      have t1 := cntL_take l k y hy
      have t2 := cntL_mem hy
      have t3 := cntL_take_le l (k + 1)
      have t4 := Nd.cnt_eq y
      have t5 := szL_mem hy
      have t6 := Nd.sz_eq y
      have E70 := hid e7
      have hfr := HF0.out.trans' hf
      replace e0 := hfr.cell e0 not_false
      replace e1 := hfr.cell e1 not_false
      replace e2 := hfr.cell e2 not_false
      replace e3 := hfr.cell e3 not_false
      replace e4 := hfr.cell e4 not_false
      replace e5 := hfr.cell e5 not_false
      replace e6 := hfr.cell e6 not_false
      replace e7 := hfr.cell e7 not_false
      obtain ⟨va2, vl, he, -, hyl⟩ := hv.open
      obtain rfl : vl = .slice a' y.l.length c' := by simpa using (congrArg (fun q => q.getD 7 undef) he).symm
      have HC := hid (fun (w2 : World) (hf2 : Fr (fun _ => False) w0 w2) => HIH.out y.l (by have := HN.out; omega) (by have := HM.out; omega) D w0 w2 _ hyl hf2)
      have HWT := hid (walkL_take hy)
      have HWC := hid (walkL_cnt (l.take k))
      have HWY := hid (walkL_cnt y.l)
      have HCN := hid (show cntL (l.take k) + 1 + cntL y.l ≤ 1048576 by have := HM.out; have := HCS.out; omega)
      have HW1 := hid (WRow.one hv rfl)
      have HF := hid hf; have HFR := hid hfr
      have HOW := hid (World.ownsRow.alloc HO.out (.cells #[.int .i64 y.op, .int .i64 y.ln, .string y.s, .int .i64 y.v.k, .int .i64 y.v.n, .string y.v.s, .slice va y.v.l.length c1, .slice a' y.l.length c'] 29))
      have HFW := hid (hf.alloc (.cells #[.int .i64 y.op, .int .i64 y.ln, .string y.s, .int .i64 y.v.k, .int .i64 y.v.n, .string y.v.s, .slice va y.v.l.length c1, .slice a' y.l.length c'] 29))
      have HCE := hid (cells_new4 wr #[.int .i64 y.op, .int .i64 y.ln, .string y.s, .int .i64 y.v.k, .int .i64 y.v.n, .string y.v.s, .slice va y.v.l.length c1, .slice a' y.l.length c'] 29 (0, 0))
      clear t1 t2 t3 t4 t5 t6 hv hyl he hy hf hfr
      go_upto_region 6 with (at_builtin; go_must (refine wpList_appendR8 rfl (.tmp 11) (.tmp 16) 27 rfl 29 (.agg #[.int .i64 0, .int .i64 0, .string ⟨#[]⟩, .int .i64 0, .int .i64 0, .string ⟨#[]⟩, .slice none 0 0, .slice none 0 0]) 8 112 Tryd.underlying27 Tryd.info_nd8 rfl (by decide) _ rfl w.heap.size (walkL (l.take k)).length ys HOW.out wr.heap.size 1 [.int .i64 y.op, .int .i64 y.ln, .string y.s, .int .i64 y.v.k, .int .i64 y.v.n, .string y.v.s, .slice va y.v.l.length c1, .slice a' y.l.length c'] rfl rfl HCE.out (by simp [Value.oneCell']) (by have := HWC.out; have := HCN.out; omega) (by decide) HFW.out.size ?_; intro g9 cap9 w9 ho9 hf9 hn9))
      have HF9 := hid (HFW.out.trans hf9 (U := fun _ => False) (fun _ _ h => h) (fun r hr e => by have := (HO.out.lt r e.symm).1; omega))
      have HO9 := hid ho9
      have d7 := (HF0.out.trans' HF9.out).cell E70.out not_false
      have HCC := hid (HC.out w9 (HF0.out.trans' HF9.out))
      clear ho9 hf9 hn9 e0 e1 e2 e3 e4 e5 e6 e7
      go_wp2_with fail
      refine HCC.out.mono ?_
      rintro e w6 ⟨v6, zs, rfl, ho6, hz6, hf6⟩
      have HF6 := hid (HF9.out.trans' hf6)
      have HOM := hid (hf6.own HO9.out (fun _ _ => id))
      have HZ := hid hz6
      obtain ⟨ar, cr, rfl, -⟩ := own_len ho6
      have hsrc : (ar = none → (walkL y.l).length = 0 ∧ cr = 0) ∧ (∀ j, j < (walkL y.l).length * 8 → ∃ b o, ar = some ⟨b, o, none⟩ ∧ w6.cell? ⟨b, o + j, none⟩ = zs[j]?) ∧ (∀ ad, ar = some ad → ∃ b o, ad = ⟨b, o, none⟩) ∧ (∀ u ∈ zs, u.oneCell' = true) := by
        have hone : ∀ u ∈ zs, u.oneCell' = true := fun u hu => by
          obtain ⟨j, hj, rfl⟩ := List.mem_iff_getElem.1 hu
          have hlz := hz6.1
          have hi8 : j / 8 < (walkL y.l).length := by omega
          obtain ⟨u, hu, hs, hc⟩ := hz6.2 (j / 8) _ (List.getElem?_eq_getElem hi8)
          have h1 := hc (j % 8) (by omega)
          rw [show j / 8 * 8 + j % 8 = j by omega, List.getElem?_eq_getElem hj] at h1
          exact NIn.one hu h1.symm
        rcases own_heap ho6 with ⟨e, h0, -⟩ | ⟨g, cap, e, -, -, hc⟩
        · simp only [Value.slice.injEq] at e
          obtain ⟨rfl, -, rfl⟩ := e
          exact ⟨fun _ => ⟨h0, rfl⟩, (fun j hj => by omega), (fun ad h => by cases h), hone⟩
        · simp only [Value.slice.injEq] at e
          obtain ⟨rfl, -, rfl⟩ := e
          exact ⟨(fun h => by cases h), fun j hj => ⟨g, 0, rfl, by rw [Nat.zero_add]; exact hc j hj⟩, fun ad h => ⟨g, 0, (Option.some.inj h).symm⟩, hone⟩
      have HS1 := hid hsrc.1; have HS2 := hid hsrc.2.1; have HS3 := hid hsrc.2.2.1; have HS4 := hid hsrc.2.2.2
      have HLB := hid (show (walkL (l.take k)).length + 1 + (walkL y.l).length ≤ 1099511627776 by have := HWC.out; have := HWY.out; have := HCN.out; omega)
      clear ho6 hz6 hf6 hsrc d7
      go_wp2_with (at_builtin; go_must (refine wpList_appendNR rfl (.tmp 18) (.tmp 24) 27 rfl 29 (.agg #[.int .i64 0, .int .i64 0, .string ⟨#[]⟩, .int .i64 0, .int .i64 0, .string ⟨#[]⟩, .slice none 0 0, .slice none 0 0]) 8 112 Tryd.underlying27 Tryd.info_nd8 rfl (by decide) _ rfl w.heap.size ((walkL (l.take k)).length + 1) _ HOM.out _ _ _ zs rfl HZ.out.1 HS1.out HS2.out HS3.out HS4.out HLB.out (by decide) HF6.out.size ?_))
      intro v7 w7 ho7 hf7
      have HF7 := hid (HF6.out.trans hf7 (U := fun _ => False) (fun _ _ h => h) (fun r hr e => by have := (HOM.out.lt r e.symm).1; omega))
      have HWR := hid (show WRow D w0 (walkL (l.take (k + 1))) (ys ++ [.int .i64 y.op, .int .i64 y.ln, .string y.s, .int .i64 y.v.k, .int .i64 y.v.n, .string y.v.s, .slice va y.v.l.length c1, .slice a' y.l.length c'] ++ zs) by
        rw [HWT.out, List.append_assoc]
        refine HW.out.append ?_
        have := HW1.out.append HZ.out
        exact this)
      have HO7 := hid (show w7.ownsRow w.heap.size 29 8 v7 (walkL (l.take (k + 1))).length (ys ++ [.int .i64 y.op, .int .i64 y.ln, .string y.s, .int .i64 y.v.k, .int .i64 y.v.n, .string y.v.s, .slice va y.v.l.length c1, .slice a' y.l.length c'] ++ zs) by
        have e : (walkL (l.take (k + 1))).length = (walkL (l.take k)).length + 1 + (walkL y.l).length := by rw [HWT.out, List.length_append, List.length_cons]; omega
        rw [e]
        simpa only [List.append_assoc, List.cons_append, List.nil_append] using ho7)
      have HON := hid (show ∀ u ∈ ys ++ [.int .i64 y.op, .int .i64 y.ln, .string y.s, .int .i64 y.v.k, .int .i64 y.v.n, .string y.v.s, .slice va y.v.l.length c1, .slice a' y.l.length c'] ++ zs, u.oneCell' = true from fun u hu => by
        rcases List.mem_append.1 hu with hu | hu
        · rcases List.mem_append.1 hu with hu | hu
          · exact HONE.out u hu
          · simp only [List.mem_cons, List.not_mem_nil, or_false] at hu
            rcases hu with rfl | rfl | rfl | rfl | rfl | rfl | rfl | rfl <;> rfl
        · exact HS4.out u hu)
      clear ho7 hf7
      go_wp2_with fail
      go_roundw
      case rel => exact ⟨k + 1, _, by omega, by go_num, HO7, HWR, HON, HF7.out⟩
      case measure => simp [intOf]; omega
    · obtain rfl : k = l.length := by omega
      have HF := hid hf
      simp only [List.take_length] at HO HW ⊢
      clear hf
      go_wp2_with fail
      go_ret
      exact ⟨_, ys, rfl, HO.out, HW.out, HF.out⟩
theorem walkd_to : ∀ (N : Nat) (l : List Nd), cntL l < N → szL l ≤ 1048576 → ∀ (D : Nat → Prop) (w0 w : World) (v : Value), NL D w0 l v → Fr (fun _ => False) w0 w →
      Calls Tryd.prog 24 #[v] w fun e w' => ∃ v' ys, e = .returned v' ∧ w'.ownsRow w.heap.size 29 8 v' (walkL l).length ys ∧ WRow D w0 (walkL l) ys ∧ Fr (fun _ => False) w w'
  | 0 => fun l h => by omega
  | N + 1 => walkd_of N (walkd_to N)
end
section
open Go.RowKit
attribute [local go_sem] Oper.semAt_some

def encN (x : Nd × Array Value × Nat) : Array Value := #[.agg x.2.1]
def loN (x : Nd × Array Value × Nat) : Nat := x.2.2
/-- What a round is told: the next node, a copy of its own. -/
def GN (M : List Nd) (B1 : Nat) (pre : List (Nd × Array Value × Nat)) (x : Nd × Array Value × Nat) (W : World) : Prop :=
  M[pre.length]? = some x.1 ∧ B1 + 2 ≤ x.2.2 ∧ NIn (fun b => x.2.2 ≤ b ∧ Soft W b) W x.1 x.2.1 ∧ ∃ ys, W.ownsRow x.2.2 29 8 (x.2.1.getD 7 undef) x.1.l.length ys
theorem walkL_split {l : List Nd} {k : Nat} {y : Nd} (h : l[k]? = some y) : walkL l = walkL (l.take k) ++ (y :: walkL y.l) ++ walkL (l.drop (k + 1)) := by
  have e : l = l.take (k + 1) ++ l.drop (k + 1) := (List.take_append_drop _ _).symm
  have h2 := walkL_append (l.take (k + 1)) (l.drop (k + 1))
  rw [← e, walkL_take h] at h2
  exact h2
theorem teach_any (m : List Nd) (hM : szL m ≤ 1099511627776) (D : Nat → Prop) (w : World) (v : Value) (h : NL D w m v) :
    Calls Tryd.prog 25 #[v] w fun e w' => ∃ B v2, e = .returned (.func (.func 44) #[] #[.pointer (some ⟨B, 0, none⟩)]) ∧ Fr (fun _ => False) w w' ∧ w.heap.size ≤ B ∧ B < w'.heap.size ∧ w'.cell? ⟨B, 0, none⟩ = some v2 ∧ NL (fun q => w.heap.size ≤ q ∧ q < w'.heap.size) w' m v2 := by
  have HC := hid (tclone_any m hM D w v h)
  obtain ⟨a, cap, us, rfl, -⟩ := h
  clear hM
  go_enter Tryd.func25, Tryd.ntmps25
  go_wp2_with fail
  refine HC.out.mono ?_
  rintro e w2 ⟨u, rfl, hf2, hco⟩
  have HL := hid (show NL (fun q => w.heap.size ≤ q) w2 m u from hco.own.close.mono fun q _ hq => hq.1)
  obtain ⟨a2, c2, us2, rfl, -⟩ := id HL.out
  have HF2 := hid hf2
  clear hf2 hco
  have HA := hid (HF2.out.alloc (.cells #[.slice a2 m.length c2] 27))
  have HB := hid (cell_new1 w2 (.slice a2 m.length c2) 27 (0, 0))
  have HV := hid (HL.out.frame ((Fr.refl (fun _ => False) w2).alloc (.cells #[.slice a2 m.length c2] 27)) fun _ _ => id)
  go_wp2_with fail
  go_ret
  refine ⟨_, _, rfl, HA.out, HF2.out.size, by simp, HB.out, (NL.mono HV.out fun q hq hd => ⟨hd, hq⟩)⟩

/-- The contract of each up to a size. -/
def EachTo (M : List Nd) (B0 : Nat) (w0 : World) (r : Nat) (J Jx : List (Nd × Array Value × Nat) → World → Prop) (N : Nat) : Prop :=
  ∀ (l : List Nd), szL l < N → szL l ≤ 1099511627776 → ∀ (D : Nat → Prop), (∀ q, D q → B0 ≤ q ∧ q < w0.heap.size) → ∀ (v : Value), NL D w0 l v → ∀ (pre : List (Nd × Array Value × Nat)) (rest : List Nd) (W : World),
    M = pre.map (·.1) ++ walkL l ++ rest → J pre W → Fr (fun q => q < B0 ∨ w0.heap.size ≤ q) w0 W → w0.heap.size + 2 ≤ W.heap.size →
    Calls Tryd.prog 45 #[v, .func (.yield r) #[] #[]] W fun e W' =>
      (e = .returned (.bool true) ∧ ∃ pre', J pre' W' ∧ pre'.map (·.1) = pre.map (·.1) ++ walkL l ∧ Fr (fun q => q < B0 ∨ w0.heap.size ≤ q) w0 W' ∧ w0.heap.size + 2 ≤ W'.heap.size) ∨
      (e = .returned (.bool false) ∧ ∃ pre', Jx pre' W' ∧ 1 ≤ pre'.length ∧ pre'.length ≤ M.length)
set_option maxRecDepth 100000 in
set_option maxHeartbeats 3200000 in
theorem each_of (M : List Nd) (B0 : Nat) (w0 : World) (hB0 : B0 ≤ w0.heap.size) (r : Nat) (J Jx : List (Nd × Array Value × Nat) → World → Prop)
    (hJ : ∀ pre X Y, J pre X → Fr (fun _ => False) X Y → J pre Y)
    (hY : ∀ pre x W1, J pre W1 → GN M w0.heap.size pre x W1 → YieldAt (Wd none) 0 Tryd.prog r (encN x) W1 fun e W' => (e = .returned (.bool true) ∧ J (pre ++ [x]) W' ∧ Fr (fun k => k < B0 ∨ k = w0.heap.size ∨ k = w0.heap.size + 1 ∨ loN x ≤ k) W1 W') ∨ (e = .returned (.bool false) ∧ Jx (pre ++ [x]) W'))
    (N : Nat) (ih : EachTo M B0 w0 r J Jx N) : EachTo M B0 w0 r J Jx (N + 1) := by
  intro l hN hM D hD v h pre rest W hMe h0 hf hsz
  have hll := Nat.le_trans (len_le_cnt l) (cntL_szL l)
  obtain ⟨a, cap, us, rfl, hcap, hmx, hn, hb, hi⟩ := h
  have HB := hid hb; have HI := hid hi; have HN := hid hN; have HM := hid hM; have HIH := hid ih; have HF := hid hf; have HSZ := hid hsz; have HJ := hid hJ; have HY := hid hY; have H0 := hid h0; have HB0 := hid hB0; have HD := hid hD; have HME := hid hMe
  have hlI : (l.length : Int) ≤ 1099511627776 := by omega
  clear hM hN hf hsz hJ hY h0 hb hi hn hll ih hB0 hD hMe hcap hmx
  go_enter Tryd.func45, Tryd.ntmps45
  go_wp2_with fail
  go_loopw [9] (fun i wr => ∃ (k : Nat) (pre' : List (Nd × Array Value × Nat)), k ≤ l.length ∧ i = .int .i64 k ∧ Hid (J pre' wr) ∧ Hid (pre'.map (·.1) = pre.map (·.1) ++ walkL (l.take k)) ∧ Hid (Fr (fun q => q < B0 ∨ w0.heap.size ≤ q) w0 wr) ∧ Hid (w0.heap.size + 2 ≤ wr.heap.size)) (fun i _ => l.length - (intOf i).toNat)
  case atStart => exact ⟨0, pre, Nat.zero_le _, rfl, H0, hid (by simp [walkL]), HF, HSZ⟩
  case round =>
    obtain ⟨k, pre', hk, rfl, HJp, HPE, HFr, HSr⟩ := hrel
    by_cases hlt : k < l.length
    · obtain ⟨b, o, y, va, c1, a', c', rfl, hDb, hy, hv, e0, e1, e2, e3, e4, e5, e6, e7⟩ := NL.elem HB.out HI.out k hlt
      have hlt' : (k : Int) < l.length := by omega
      have hnS : ¬ (b < B0 ∨ w0.heap.size ≤ b) := by have := HD.out b hDb; omega
      have t5 := szL_mem hy
      have t6 := Nd.sz_eq y
      replace e0 := HFr.out.cell e0 hnS
      replace e1 := HFr.out.cell e1 hnS
      replace e2 := HFr.out.cell e2 hnS
      replace e3 := HFr.out.cell e3 hnS
      replace e4 := HFr.out.cell e4 hnS
      replace e5 := HFr.out.cell e5 hnS
      replace e6 := HFr.out.cell e6 hnS
      replace e7 := HFr.out.cell e7 hnS
      obtain ⟨va2, vl, he, -, hyl⟩ := hv.open
      obtain rfl : vl = .slice a' y.l.length c' := by simpa using (congrArg (fun q => q.getD 7 undef) he).symm
      have hvr := hv.frame HFr.out (fun q hq => by have := HD.out q hq; omega)
      have HFA := hid ((Fr.refl (fun _ => False) wr).alloc (.cells #[.int .i64 y.op, .int .i64 y.ln, .string y.s, .int .i64 y.v.k, .int .i64 y.v.n, .string y.v.s, .slice va y.v.l.length c1, .slice a' y.l.length c'] 29))
      have HG := hid (heap_alloc_new wr (.cells #[.int .i64 y.op, .int .i64 y.ln, .string y.s, .int .i64 y.v.k, .int .i64 y.v.n, .string y.v.s, .slice va y.v.l.length c1, .slice a' y.l.length c'] 29))
      have HSA := hid (show wr.heap.size < (wr.alloc (.cells #[.int .i64 y.op, .int .i64 y.ln, .string y.s, .int .i64 y.v.k, .int .i64 y.v.n, .string y.v.s, .slice va y.v.l.length c1, .slice a' y.l.length c'] 29)).heap.size by simp)
      have HC := hid (fun (w2 : World) (hf2 : Fr (fun _ => False) wr w2) => node_to (y.sz + 1) y (by omega) (by have := HM.out; omega) _ w2 _ (hvr.frame hf2 fun _ _ => id))
      have HSP := hid (walkL_split hy)
      have HWT := hid (walkL_take hy)
      have HCE := hid (fun (pre2 : List (Nd × Array Value × Nat)) (rest2 : List Nd) (w2 : World) => HIH.out y.l (by have := HN.out; omega) (by have := HM.out; omega) D HD.out _ hyl pre2 rest2 w2)
      clear hv hvr hDb hnS hy t5 t6 he hyl
      go_upto_region 4 with fail
      generalize hW2 : wr.alloc (.cells #[.int .i64 y.op, .int .i64 y.ln, .string y.s, .int .i64 y.v.k, .int .i64 y.v.n, .string y.v.s, .slice va y.v.l.length c1, .slice a' y.l.length c'] 29) = W2 at *
      clear hW2 e0 e1 e2 e3 e4 e5 e6 e7
      have d0 : W2.cell? ⟨wr.heap.size, 0, none⟩ = some (.int .i64 y.op) := by rw [cell_of_row _ _ 0 _ _ _ HG.out]; rfl
      have d1 : W2.cell? ⟨wr.heap.size, 1, none⟩ = some (.int .i64 y.ln) := by rw [cell_of_row _ _ 1 _ _ _ HG.out]; rfl
      have d2 : W2.cell? ⟨wr.heap.size, 2, none⟩ = some (.string y.s) := by rw [cell_of_row _ _ 2 _ _ _ HG.out]; rfl
      have d3 : W2.cell? ⟨wr.heap.size, 3, none⟩ = some (.int .i64 y.v.k) := by rw [cell_of_row _ _ 3 _ _ _ HG.out]; rfl
      have d4 : W2.cell? ⟨wr.heap.size, 4, none⟩ = some (.int .i64 y.v.n) := by rw [cell_of_row _ _ 4 _ _ _ HG.out]; rfl
      have d5 : W2.cell? ⟨wr.heap.size, 5, none⟩ = some (.string y.v.s) := by rw [cell_of_row _ _ 5 _ _ _ HG.out]; rfl
      have d6 : W2.cell? ⟨wr.heap.size, 6, none⟩ = some (.slice va y.v.l.length c1) := by rw [cell_of_row _ _ 6 _ _ _ HG.out]; rfl
      have d7 : W2.cell? ⟨wr.heap.size, 7, none⟩ = some (.slice a' y.l.length c') := by rw [cell_of_row _ _ 7 _ _ _ HG.out]; rfl
      have HD7 := hid d7
      refine (wpIn_wide (n := 0)).1 ?_
      gi_wp2_with fail
      refine ⟨trivial, rfl, callsIn_wide.2 ((HC.out W2 HFA.out).mono ?_)⟩
      rintro e w3 ⟨u', rfl, hf3, hv3, hno3, -⟩
      have HF3 := hid (HFA.out.trans' hf3)
      have HF23 := hid hf3
      have hJ3 := HJ.out _ _ _ HJp.out HF3.out
      have hsz2 : w0.heap.size + 2 ≤ W2.heap.size := Nat.le_trans HSr.out HFA.out.size
      obtain ⟨ys3, ho3, -⟩ := hno3
      have hM1 : M[pre'.length]? = some y := by
        have e1 : M = pre'.map (·.1) ++ (y :: (walkL y.l ++ walkL (l.drop (k + 1)) ++ rest)) := by
          rw [HPE.out, HME.out, HSP.out]
          simp [List.append_assoc]
        rw [e1, List.getElem?_append_right (by simp)]
        simp
      have hG3 : GN M w0.heap.size pre' (y, u', W2.heap.size) w3 := ⟨hM1, hsz2, hv3, ys3, ho3⟩
      have hpl : pre'.length < M.length := (List.getElem?_eq_some_iff.1 hM1).1
      obtain ⟨fn, tmps, assign, body, hy, hR⟩ := HY.out pre' (y, u', W2.heap.size) w3 hJ3 hG3
      have HK3 := hid ((HFr.out.trans' (HF3.out.mono fun _ _ h => h.elim)))
      have HS2 := hid hsz2; have HPL := hid hpl
      dsimp only [encN] at hy
      clear hv3 ho3 hJ3 hG3 hf3 hsz2 d0 d1 d2 d3 d4 d5 d6 d7 hM1 hpl
      gi_wp2_with fail
      refine ⟨rfl, hR.mono ?_⟩
      clear hy hR
      rintro e w4 (⟨rfl, hJ4, hk4⟩ | ⟨rfl, hJx4⟩)
      · have HJ4 := hid hJ4
        have HK4 := hid (HK3.out.trans' (hk4.mono fun q _ h => by rcases h with h | h | h | h; exact .inl h; exact .inr (by omega); exact .inr (by omega); exact .inr (by have := HS2.out; simp only [loN] at h; omega)))
        have HS4 := hid (show w0.heap.size + 2 ≤ w4.heap.size from Nat.le_trans HSr.out (Nat.le_trans HF3.out.size hk4.size))
        have d7 := hk4.cell (HF23.out.cell HD7.out not_false) (fun h => by have := HSr.out; have := HB0.out; have := HSA.out; simp only [loN] at h; omega)
        have HME2 := hid (show M = (pre' ++ [(y, u', W2.heap.size)]).map (·.1) ++ walkL y.l ++ (walkL (l.drop (k + 1)) ++ rest) by
          rw [List.map_append, HPE.out, HME.out, HSP.out]
          simp [List.append_assoc])
        clear hJ4 hk4
        have HWC := hid (show (pre' ++ [(y, u', W2.heap.size)]).map (·.1) = pre.map (·.1) ++ walkL (l.take k) ++ [y] by rw [List.map_append, HPE.out]; rfl)
        gi_wp2_with fail
        refine ⟨trivial, rfl, callsIn_wide.2 ((HCE.out _ _ w4 HME2.out HJ4.out HK4.out HS4.out).mono ?_)⟩
        rintro e w5 (⟨rfl, pre5, hJ5, hp5, hk5, hs5⟩ | ⟨rfl, pre5, hj5, hl5, hm5⟩)
        · have HJ5 := hid hJ5; have HK5 := hid hk5; have HS5 := hid hs5
          have HP5 := hid (show pre5.map (·.1) = pre.map (·.1) ++ walkL (l.take (k + 1)) by rw [hp5, HWC.out, HWT.out]; simp [List.append_assoc])
          clear hJ5 hp5 hk5 hs5
          gi_wp2_with fail
          go_wp2_with fail
          go_roundw
          case rel => exact ⟨k + 1, pre5, by omega, by go_num, HJ5, HP5, HK5, HS5⟩
          case measure => simp [intOf]; omega
        · have HJ5 := hid hj5; have HL5 := hid hl5; have HM5 := hid hm5
          clear hj5 hl5 hm5
          gi_wp2_with fail
          go_wp2_with fail
          go_ret
          exact .inr ⟨rfl, _, HJ5.out, HL5.out, HM5.out⟩
      · have HJ4 := hid hJx4
        clear hJx4
        gi_wp2_with fail
        refine ⟨trivial, ?_⟩
        gi_wp2_with fail
        go_wp2_with fail
        go_ret
        exact .inr ⟨rfl, _, HJ4.out, by simp, by have := HPL.out; simp; omega⟩
    · obtain rfl : k = l.length := by omega
      rw [List.take_length] at HPE
      have hlt' : ¬ (l.length : Int) < l.length := by omega
      go_wp2_with fail
      go_ret
      exact .inl ⟨rfl, pre', HJp.out, HPE.out, HFr.out, HSr.out⟩
theorem each_to (M : List Nd) (B0 : Nat) (w0 : World) (hB0 : B0 ≤ w0.heap.size) (r : Nat) (J Jx : List (Nd × Array Value × Nat) → World → Prop)
    (hJ : ∀ pre X Y, J pre X → Fr (fun _ => False) X Y → J pre Y)
    (hY : ∀ pre x W1, J pre W1 → GN M w0.heap.size pre x W1 → YieldAt (Wd none) 0 Tryd.prog r (encN x) W1 fun e W' => (e = .returned (.bool true) ∧ J (pre ++ [x]) W' ∧ Fr (fun k => k < B0 ∨ k = w0.heap.size ∨ k = w0.heap.size + 1 ∨ loN x ≤ k) W1 W') ∨ (e = .returned (.bool false) ∧ Jx (pre ++ [x]) W')) :
    ∀ N, EachTo M B0 w0 r J Jx N
  | 0 => fun l h => by omega
  | N + 1 => each_of M B0 w0 hB0 r J Jx hJ hY N (each_to M B0 w0 hB0 r J Jx hJ hY N)
theorem teach_iter (m : List Nd) (hM : szL m ≤ 1099511627776) (B0 B : Nat) (w0 : World) (v : Value) (hB : B0 ≤ B) (hB1 : B < w0.heap.size) (hc : w0.cell? ⟨B, 0, none⟩ = some v) (h : NL (fun q => B0 ≤ q ∧ q < w0.heap.size) w0 m v) :
    IterL Tryd.prog 44 #[.pointer (some ⟨B, 0, none⟩)] encN loN B0 w0.heap.size (GN (walkL m) w0.heap.size) (fun xs => xs.length = (walkL m).length) (fun pre => 1 ≤ pre.length ∧ pre.length ≤ (walkL m).length) w0 := by
  intro r J Jx W hf hsz hJ hJx hY h0
  show Calls Tryd.prog 44 #[.func (.yield r) #[] #[], .pointer (some ⟨B, 0, none⟩)] W _
  have d0 := hf.cell hc not_false
  have HE := hid (each_to (walkL m) B0 w0 (by omega) r J Jx hJ hY (szL m + 1) m (by omega) hM _ (fun q hq => hq) v h [] [] W (by simp) h0 (hf.mono fun _ _ h => h.elim) hsz)
  obtain ⟨a, cap, us, rfl, -⟩ := h
  clear hf hsz hJ hJx hY h0 hc hB hB1 hM
  go_enter Tryd.func44, Tryd.ntmps44
  go_wp2_with fail
  refine HE.out.mono ?_
  rintro e w2 (⟨rfl, pre', hj, hp, -⟩ | ⟨rfl, pre', hj, hl, hm⟩)
  · have HJ := hid hj
    have HL := hid (show pre'.length = (walkL m).length by rw [← List.length_map (f := (·.1)), hp]; simp)
    clear hj hp
    go_wp2_with fail
    go_end0
    exact ⟨⟨_, rfl⟩, .inl ⟨pre', HL.out, HJ.out⟩⟩
  · have HJ := hid hj; have HL := hid hl; have HM := hid hm
    clear hj hl hm
    go_wp2_with fail
    go_end0
    exact ⟨⟨_, rfl⟩, .inr ⟨pre', ⟨HL.out, HM.out⟩, HJ.out⟩⟩
end
section
open Go.RowKit
attribute [local go_sem] Oper.semAt_some

set_option maxRecDepth 100000 in
set_option maxHeartbeats 3200000 in
theorem treeEach_any (pa : Nat → Addr) (v : Value) (m : List Nd) (at_ : Int) (w : World) (h : NL (fun _ => True) w m v) (hM : szL m ≤ 1048576) (b1 : -9223372036854775808 ≤ at_) (c1 : at_ ≤ 9223372036854775807) (hE : Sent5 w pa) (hg : 7 ≤ w.heap.size) :
    Calls Tryd.prog 6 #[v, .int .i64 at_] w fun e w' => e = .returned (.bool true) ∧ Fr (fun _ => False) w w' := by
  have hcs := cntL_szL m
  have hwc := walkL_cnt m
  have HFI := hid (fun (w2 : World) (hf : Fr (fun _ => False) w w2) => tfirst5_any pa w2 (hE.frame hf) (Nat.le_trans hg hf.size))
  have HPR := hid (fun (w2 : World) (hf : Fr (fun _ => False) w w2) => wprogram_any m hM 500 (by decide) _ w2 _ (h.frame hf fun _ _ => id))
  have HRN := hid (fun (w2 : World) (hf : Fr (fun _ => False) w w2) => nnodes_any m (by omega) _ w2 _ (h.frame hf fun _ _ => id))
  have HWK := hid (fun (w2 : World) (hf : Fr (fun _ => False) w w2) => walkd_to (cntL m + 1) m (by omega) hM _ w w2 _ (h.mono (E := fun k => k < w.heap.size) fun k hk _ => hk) hf)
  have HEA := hid (fun (w2 : World) (hf : Fr (fun _ => False) w w2) => teach_any m (by omega) _ w2 _ (h.frame hf fun q _ => id))
  have HIT := hid (fun (B0 B : Nat) (w0 : World) (v : Value) => teach_iter m (by omega) B0 B w0 v)
  obtain ⟨a, cap, us, rfl, -⟩ := id h
  have HVL := hid h
  have HB1 := hid b1; have HC1 := hid c1
  obtain ⟨M, hMe⟩ : ∃ M, walkL m = M := ⟨_, rfl⟩
  rw [hMe] at HWK HIT hwc
  have hMI : (M.length : Int) ≤ 1048576 := by omega
  clear h b1 c1 hcs hwc hM hE hg hMe
  refine (callsIn_wide (n := 0)).1 (callsIn_of_wp_marks Tryd.func6 rfl trivial (wpIn_wide.2 ?_))
  simp only [Tryd.ntmps6, List.size_toArray, List.length_cons, List.length_nil, Nat.reduceAdd, Nat.reduceSub, Array.replicate_succ, Array.replicate_zero, List.push_toArray, List.append_toArray, List.nil_append, List.cons_append]
  go_wp2_with fail
  refine (HFI.out _ ((Fr.refl _ _).alloc _)).mono ?_
  rintro e w1 ⟨rfl, hf1⟩
  have F1 := hid (((Fr.refl (fun _ => False) w).alloc (.cells #[.bool false] 4)).trans' hf1)
  have X4 := hid (show Bx w1 w.heap.size 4 (.bool false) from hf1.heap (heap_alloc_new w _) not_false)
  clear hf1
  go_wp2_with fail
  refine (HPR.out w1 F1.out).mono ?_
  rintro e w2 ⟨⟨rb, rfl, -⟩, hf2⟩
  have F2 := hid (F1.out.trans' hf2)
  have X4b := hid (show Bx w2 w.heap.size 4 (.bool false) from hf2.heap X4.out not_false)
  clear hf2 X4
  cases rb
  · have d4 := X4b.out.cell
    have z4 := X4b.out.frozen
    have X9 := hid (X4b.out.set (.bool true))
    have F9 := hid (F2.out.setCell (p := ⟨w.heap.size, 0, none⟩) (.inr (Nat.le_refl _)) (.bool true))
    go_wp2_with fail
    exact leave0 (results_cell1 rfl rfl X9.out) ⟨rfl, F9.out⟩
  go_wp2_with fail
  refine (HRN.out w2 F2.out).mono ?_
  rintro e w3 ⟨v3, rfl, hf3, hvl3⟩
  obtain ⟨a3, c3, u3, rfl, -⟩ := id hvl3
  have F3 := hid (F2.out.trans' hf3)
  have V3 := hid (hvl3.mono (E := fun k => k < w3.heap.size) fun k hk _ => hk)
  have H34 := hid (show w.heap.size < w3.heap.size from Nat.lt_of_lt_of_le X4b.out.lt hf3.size)
  have X4c := hid (X4b.out.fr hf3 not_false)
  clear hf3 hvl3 X4b
  go_wp2_with fail
  refine (HWK.out w3 F3.out).mono ?_
  rintro e wa ⟨va, ys, rfl, hoa, hwr, hfa⟩
  have NLA := hid (show NL (fun k => k < wa.heap.size) wa M va from (hwr.nl hoa (F3.out.trans' hfa)).mono fun k hk _ => hk)
  obtain ⟨aa, ca, ua, rfl, -⟩ := id NLA.out
  have FAw := hid ((hfa.alloc (.cells #[.slice aa M.length ca] 27)).alloc (.cells #[.int .i64 0] 3))
  have FA2 := hid (((Fr.refl (fun _ => False) wa).alloc (.cells #[.slice aa M.length ca] 27)).alloc (.cells #[.int .i64 0] 3))
  have F4 := hid (F3.out.trans' FAw.out)
  have X4d := hid (X4c.out.fr FAw.out not_false)
  have X7 := hid (show Bx ((wa.alloc (.cells #[.slice aa M.length ca] 27)).alloc (.cells #[.int .i64 0] 3)) wa.heap.size 27 (.slice aa M.length ca) from (Bx.new wa _ _).fr ((Fr.refl (fun _ => False) _).alloc _) not_false)
  have X8 := hid (show Bx ((wa.alloc (.cells #[.slice aa M.length ca] 27)).alloc (.cells #[.int .i64 0] 3)) (wa.heap.size + 1) 3 (.int .i64 0) from by
    have := Bx.new (wa.alloc (.cells #[.slice aa M.length ca] 27)) 3 (.int .i64 0)
    rwa [World.size_alloc] at this)
  have NL4 := hid (NLA.out.frame FA2.out fun _ _ => id)
  have V4 := hid ((V3.out.mono (E := fun k => k < wa.heap.size) fun k hk hd => Nat.lt_of_lt_of_le hd hfa.size).frame FAw.out fun _ _ => id)
  have HN := hid (show w.heap.size < wa.heap.size from Nat.lt_of_lt_of_le H34.out hfa.size)
  clear hfa hoa hwr X4c NLA V3
  go_upto_region 9 with fail
  generalize hw4 : (wa.alloc (.cells #[.slice aa M.length ca] 27)).alloc (.cells #[.int .i64 0] 3) = w4 at *
  clear hw4 FA2
  generalize wa.heap.size = B7 at *
  go_wp2_with fail
  refine (HEA.out w4 F4.out).mono ?_
  rintro e w5 ⟨B, v2, rfl, hf5, hB, hB1, hcb, hvl2⟩
  have HIT2 := hid (HIT.out _ _ _ _ hB hB1 hcb hvl2)
  have F5 := hid (F4.out.trans' hf5)
  have Y4 := hid (X4d.out.fr hf5 not_false)
  have Y7 := hid (X7.out.fr hf5 not_false)
  have Y8 := hid (X8.out.fr hf5 not_false)
  have V5 := hid (V4.out.frame hf5 fun _ _ => id)
  have NL5 := hid (NL4.out.frame hf5 fun _ _ => id)
  have HS45 := hid hf5.size
  have L4 := hid X4d.out.lt; have L7 := hid X7.out.lt; have L8 := hid X8.out.lt
  clear hf5 hB hB1 hcb hvl2 X4d X7 X8 V4 NL4
  go_wp2_with fail
  refine range_lo (gf := 44) (lb := #[.pointer (some ⟨B, 0, none⟩)]) (encs := encN) (lo := loN) (B0 := w4.heap.size) rfl (enters_of Tryd.func44 (by kernel_rfl) rfl) HS45.out (fun _ => rfl) HIT2.out (fun _ _ _ h => h.2.1)
    (fun pre W => Fr (fun q => q = B7 + 1) w5 W ∧ Bx W (B7 + 1) 3 (.int .i64 pre.length)) (fun _ _ _ => False)
    (fun pre X Y _ h hf => ⟨h.1.trans hf (fun _ _ h => h) (fun k hk e => by omega), h.2.fr hf (by have := L8.out; have := HS45.out; omega)⟩) (fun _ _ _ _ h _ => h.elim) ⟨Fr.refl _ _, Y8.out⟩ ?round ?done ?stop
  case stop => exact fun _ _ _ _ h => h.elim
  case round =>
    rintro l pre ⟨y, u, lo⟩ W ⟨hfI, hx8⟩ ⟨hmy, hlo, hvy, xs, hoy⟩ hsz
    replace hmy : M[pre.length]? = some y := hmy
    replace hlo : w5.heap.size + 2 ≤ lo := hlo
    replace hvy : NIn (fun b => lo ≤ b ∧ Soft W b) W y u := hvy
    have hym := (List.getElem?_eq_some_iff.1 hmy).1
    have hlt : (pre.length : Int) < M.length := by omega
    obtain ⟨vv, vl, rfl, hvv, hvl⟩ := hvy.open
    obtain ⟨a9, c9, u9, rfl, -⟩ := id hvl
    obtain ⟨av, cv, uv, rfl, -⟩ := id hvv
    have VW := NL5.out.frame hfI (fun q hq e => by omega)
    obtain ⟨au, cu, uu, eu, -, -, -, hbu, hiu⟩ := VW
    simp only [Value.slice.injEq] at eu
    obtain ⟨rfl, -, rfl⟩ := eu
    obtain ⟨b, o, y2, va, cc, a2, cc2, rfl, hbB, hy2, hv2, e0, e1, e2, e3, e4, e5, e6, e7⟩ := NL.elem hbu hiu pre.length (by omega)
    obtain rfl : y = y2 := by rw [hmy] at hy2; exact Option.some.inj hy2
    have F1w := hid ((Fr.refl (fun _ => False) W).alloc (.cells #[.int .i64 y.op, .int .i64 y.ln, .string y.s, .int .i64 y.v.k, .int .i64 y.v.n, .string y.v.s, .slice av y.v.l.length cv, .slice a9 y.l.length c9] 29))
    have G1 := hid (heap_alloc_new W (.cells #[.int .i64 y.op, .int .i64 y.ln, .string y.s, .int .i64 y.v.k, .int .i64 y.v.n, .string y.v.s, .slice av y.v.l.length cv, .slice a9 y.l.length c9] 29))
    have HSI := hid (fun (w9 : World) (hf9 : Fr (fun k => k = w5.heap.size + 1) W w9) => nsame_refl y.sz y (Nat.le_refl _) _ _ w9 _ _ (hvy.frame hf9 fun q hq e => by omega) (hv2.frame hf9 fun q hq e => by have := L7.out; have := HS45.out; omega))
    have hoy' : W.ownsRow lo 29 8 (.slice a9 y.l.length c9) y.l.length xs := hoy
    have HOY := hid hoy'
    have HFI := hid hfI; have HX8 := hid hx8; have HSZ := hid hsz; have HLO := hid hlo
    have E0 := hid e0; have E1 := hid e1; have E2 := hid e2; have E3 := hid e3; have E4 := hid e4; have E5 := hid e5; have E6 := hid e6; have E7 := hid e7; have HBB := hid hbB
    clear hbu hiu hy2 hv2 hvv hvl hmy hoy hoy' hfI hx8 hsz e0 e1 e2 e3 e4 e5 e6 e7 hbB hvy hym hlo
    dsimp only [encN]
    gi_wp2_with fail
    refine ⟨F1w.out, fun w6 hf6 hs6 => ?_⟩
    show Code.wpIn _ _ _ _ (bodyL w4.heap.size lo _ _ _ w6) _ _
    have F16 := hid ((F1w.out.mono (T := fun k => k = w5.heap.size + 1) fun _ _ h => h.elim).trans' hf6)
    have G6 := hid (hf6.heap G1.out (by have := HSZ.out; omega))
    have Z8 := hid (HX8.out.fr F16.out (by have := L8.out; have := HS45.out; omega))
    have Z7 := hid ((Y7.out.fr HFI.out (by omega)).fr F16.out (by have := L7.out; have := HS45.out; omega))
    have HOZ := hid (F16.out.own HOY.out (fun q hq => by have := (HOY.out.lt q hq).1; have := HLO.out; omega))
    have J0 := hid (F16.out.cell E0.out (by have := HBB.out; have := L7.out; have := HS45.out; simp only; omega))
    have J1 := hid (F16.out.cell E1.out (by have := HBB.out; have := L7.out; have := HS45.out; simp only; omega))
    have J2 := hid (F16.out.cell E2.out (by have := HBB.out; have := L7.out; have := HS45.out; simp only; omega))
    have J3 := hid (F16.out.cell E3.out (by have := HBB.out; have := L7.out; have := HS45.out; simp only; omega))
    have J4 := hid (F16.out.cell E4.out (by have := HBB.out; have := L7.out; have := HS45.out; simp only; omega))
    have J5 := hid (F16.out.cell E5.out (by have := HBB.out; have := L7.out; have := HS45.out; simp only; omega))
    have J6 := hid (F16.out.cell E6.out (by have := HBB.out; have := L7.out; have := HS45.out; simp only; omega))
    have J7 := hid (F16.out.cell E7.out (by have := HBB.out; have := L7.out; have := HS45.out; simp only; omega))
    clear hf6 hs6
    generalize W.heap.size = BV at *
    have hdl : decide (M.length ≤ pre.length) = false := decide_eq_false (by omega)
    have D0 := hid (show w6.cell? ⟨BV, 0, none⟩ = some (.int .i64 y.op) by rw [cell_of_row _ _ 0 _ _ _ G6.out]; rfl)
    have D1 := hid (show w6.cell? ⟨BV, 1, none⟩ = some (.int .i64 y.ln) by rw [cell_of_row _ _ 1 _ _ _ G6.out]; rfl)
    have D2 := hid (show w6.cell? ⟨BV, 2, none⟩ = some (.string y.s) by rw [cell_of_row _ _ 2 _ _ _ G6.out]; rfl)
    have D3 := hid (show w6.cell? ⟨BV, 3, none⟩ = some (.int .i64 y.v.k) by rw [cell_of_row _ _ 3 _ _ _ G6.out]; rfl)
    have D4 := hid (show w6.cell? ⟨BV, 4, none⟩ = some (.int .i64 y.v.n) by rw [cell_of_row _ _ 4 _ _ _ G6.out]; rfl)
    have D5 := hid (show w6.cell? ⟨BV, 5, none⟩ = some (.string y.v.s) by rw [cell_of_row _ _ 5 _ _ _ G6.out]; rfl)
    have D6 := hid (show w6.cell? ⟨BV, 6, none⟩ = some (.slice av y.v.l.length cv) by rw [cell_of_row _ _ 6 _ _ _ G6.out]; rfl)
    have D7 := hid (show w6.cell? ⟨BV, 7, none⟩ = some (.slice a9 y.l.length c9) by rw [cell_of_row _ _ 7 _ _ _ G6.out]; rfl)
    gi_wp2_with fail
    refine rd_region_cls (fun w' => Fr (fun _ => False) w6 w') (by kernel_rfl) (by kernel_rfl) (Fr.refl _ _).drew (fun _ _ h => h) (by kernel_rfl) ?_
    (refine q_take ?_ (by kernel_rfl) ?_ ?_; rotate_left; (· intro w' hS; have d8 := (Z8.out.fr hS not_false).cell; go_simp; try with_reducible rfl); try simp only [Act.put, List.setIfInBounds_toArray, List.set_cons_zero, List.set_cons_succ])
    (refine q_take ?_ (by kernel_rfl) ?_ ?_; rotate_left; (· intro w' hS; have d7 := (Z7.out.fr hS not_false).cell; go_simp; try with_reducible rfl); try simp only [Act.put, List.setIfInBounds_toArray, List.set_cons_zero, List.set_cons_succ])
    iterate 3 (refine q_take ?_ (by kernel_rfl) ?_ ?_; rotate_left; (· intro w' hS; go_simp; try with_reducible rfl); (try simp only [Act.put, List.setIfInBounds_toArray, List.set_cons_zero, List.set_cons_succ]))
    (refine q_take ?_ (by kernel_rfl) ?_ ?_; rotate_left; (· intro w' hS; have g0 := hS.cell D0.out not_false; have g1 := hS.cell D1.out not_false; have g2 := hS.cell D2.out not_false; have g3 := hS.cell D3.out not_false; have g4 := hS.cell D4.out not_false; have g5 := hS.cell D5.out not_false; have g6 := hS.cell D6.out not_false; have g7 := hS.cell D7.out not_false; go_simp; try with_reducible rfl); try simp only [Act.put, List.setIfInBounds_toArray, List.set_cons_zero, List.set_cons_succ])
    (refine q_take ?_ (by kernel_rfl) ?_ ?_; rotate_left; (· intro w' hS; have d7 := (Z7.out.fr hS not_false).cell; go_simp; try with_reducible rfl); try simp only [Act.put, List.setIfInBounds_toArray, List.set_cons_zero, List.set_cons_succ])
    (refine q_take ?_ (by kernel_rfl) ?_ ?_; rotate_left; (· intro w' hS; have d8 := (Z8.out.fr hS not_false).cell; go_simp; try with_reducible rfl); try simp only [Act.put, List.setIfInBounds_toArray, List.set_cons_zero, List.set_cons_succ])
    (refine q_take ?_ (by kernel_rfl) ?_ ?_; rotate_left; (· intro w' hS; go_simp; try with_reducible rfl); (try simp only [Act.put, List.setIfInBounds_toArray, List.set_cons_zero, List.set_cons_succ]))
    (refine q_take ?_ (by kernel_rfl) ?_ ?_; rotate_left; (· intro w' hS; have g0 := hS.cell J0.out not_false; have g1 := hS.cell J1.out not_false; have g2 := hS.cell J2.out not_false; have g3 := hS.cell J3.out not_false; have g4 := hS.cell J4.out not_false; have g5 := hS.cell J5.out not_false; have g6 := hS.cell J6.out not_false; have g7 := hS.cell J7.out not_false; go_simp; try with_reducible rfl); try simp only [Act.put, List.setIfInBounds_toArray, List.set_cons_zero, List.set_cons_succ])
    (refine q_call ?_ ?_ (by kernel_rfl) ?_ ?_; rotate_left 2; (· intro w' hS; go_simp; first | with_reducible rfl | (constructor <;> with_reducible rfl)); (refine ⟨_, fun w' hw => (HSI.out w' (F16.out.trans' (hw.mono fun _ _ h => h.elim))).mono fun _ _ h => ⟨h.1, hw.trans' h.2⟩, ?_⟩); (try simp only [Act.put, List.setIfInBounds_toArray, List.set_cons_zero, List.set_cons_succ]))
    iterate 2 (refine q_take ?_ (by kernel_rfl) ?_ ?_; rotate_left; (· intro w' hS; go_simp; try with_reducible rfl); (try simp only [Act.put, List.setIfInBounds_toArray, List.set_cons_zero, List.set_cons_succ]))
    refine q_end (fun w8 hw => ?_)
    have F68 := hid hw
    have d7 := hw.cell D7.out not_false
    clear hw
    have hend : ∀ w9 : World, Fr (fun q => q < w4.heap.size ∨ lo ≤ q) w6 w9 → Bx w9 (B7 + 1) 3 (.int .i64 pre.length) → Fr (fun q => q = B7 + 1) w5 w9 → ∀ a' : Act,
        bodyL w4.heap.size lo (fun pre W => Fr (fun q => q = B7 + 1) w5 W ∧ Bx W (B7 + 1) 3 (.int .i64 pre.length)) (fun _ _ _ => False) (pre ++ [(y, #[.int .i64 y.op, .int .i64 y.ln, .string y.s, .int .i64 y.v.k, .int .i64 y.v.n, .string y.v.s, .slice av y.v.l.length cv, .slice a9 y.l.length c9], lo)]) w6 .normal a' (w9.setCell ⟨B7 + 1, 0, none⟩ (.int .i64 ((pre.length : Int) + 1))) := fun w9 h1 h2 h3 a' => by
      refine ⟨h1.setCell (p := ⟨B7 + 1, 0, none⟩) (.inl (.inl L8.out)) _, h3.setCell (p := ⟨B7 + 1, 0, none⟩) (.inl rfl) _, ?_⟩
      have := h2.set (.int .i64 ((pre.length : Int) + 1))
      simpa using this
    have HEND := hid hend
    have F58 := hid ((HFI.out.trans F16.out (U := fun q => q = B7 + 1) (fun _ _ h => h) (fun q hq e => by omega)).trans' (F68.out.mono fun _ _ h => h.elim))
    have hwr : IntKind.i64.wrap ((pre.length : Int) + 1) = (pre.length : Int) + 1 := IntWalk.i64_in _ (by omega)
    clear hend
    by_cases hl0 : 0 < y.l.length
    rotate_left
    · have hl1 : y.l.length = 0 := by omega
      have q5 : decide (0 < y.l.length) = false := decide_eq_false hl0
      have d8 := (Z8.out.fr F68.out not_false).cell
      have z8 := (Z8.out.fr F68.out not_false).frozen
      have HE := hid (HEND.out w8 (F68.out.mono fun _ _ h => h.elim) (Z8.out.fr F68.out not_false) F58.out)
      gi_wp2_with fail
      exact HE.out _
    · have q5 : decide (0 < y.l.length) = true := decide_eq_true hl0
      have HOW := hid (F68.out.own HOZ.out (fun _ _ => id))
      obtain ⟨g, ea, hgb⟩ : ∃ g, a9 = some ⟨g, 0, none⟩ ∧ lo ≤ g := by
        rcases own_heap HOW.out with ⟨e, h0, -⟩ | ⟨g, cap, e, hb, -⟩
        · omega
        · simp only [Value.slice.injEq] at e; exact ⟨g, e.1, hb⟩
      subst ea
      have HGB := hid hgb
      have hl0I : (0 : Int) < y.l.length := by omega
      obtain ⟨hcg, hzg⟩ := own_cells8 HOW.out
      have hg0 := hcg 0 (by omega)
      have hxs : 0 < xs.length := by have := HOW.out.1; omega
      rw [List.getElem?_eq_getElem hxs] at hg0
      have hgL : B7 + 1 ≠ g := by have := HGB.out; have := L8.out; have := HS45.out; have := HLO.out; omega
      have hf10 := (Fr.refl (fun q => q = g) w8).setCell (p := ⟨g, 0, none⟩) (.inl rfl) (.int .i64 99)
      have Z10 := hid ((Z8.out.fr F68.out not_false).fr hf10 hgL)
      have F610 := hid (F68.out.trans hf10 (U := fun q => q < w4.heap.size ∨ lo ≤ q) (fun _ _ h => h.elim) (fun q _ e => .inr (by have := HGB.out; omega)))
      have F510 := hid (F58.out.trans hf10 (U := fun q => q = B7 + 1) (fun _ _ h => h) (fun q hq e => by have := HGB.out; have := HLO.out; omega))
      have HE := hid (HEND.out _ F610.out Z10.out F510.out)
      have d8 := Z10.out.cell
      have z8 := Z10.out.frozen
      clear hcg hgb hf10
      gi_wp2_with fail
      exact HE.out _
  case done =>
    rintro xs W hxs ⟨hfI, hx8⟩ hsz hD
    replace hxs : xs.length = M.length := hxs
    rw [hxs] at hx8
    have d8 := hx8.cell
    have q0 : ((M.length : Int) != (M.length : Int)) = false := by simp
    have Z4 := hid (Y4.out.fr hfI (by have := HN.out; omega))
    have Z7 := hid (Y7.out.fr hfI (by omega))
    have FW := hid (F5.out.trans hfI (U := fun _ => False) (fun _ _ h => h) (fun q hq e => by have := HN.out; omega))
    have hBD : w.heap.size < w5.heap.size := Nat.lt_of_lt_of_le L4.out HS45.out
    have HSN := hid (nsames_refl m _ _ W _ _ (HVL.out.frame FW.out fun _ _ => id) (V5.out.frame hfI fun q hq h => by omega))
    have d7 := Z7.out.cell
    have HX8 := hid hx8
    have HFI := hid hfI; have HD := hid hD; have HBD := hid hBD; have HSZ := hid hsz
    clear hfI hx8 hD hBD hsz
    go_wp2_with fail
    refine HSN.out.mono ?_
    rintro e Wb ⟨rfl, hfb⟩
    have FWb := hid (FW.out.trans' hfb)
    have HFb := hid ((HFI.out).trans' (hfb.mono fun _ _ h => h.elim))
    have Z4b := hid (Z4.out.fr hfb not_false)
    have HDb := hid (hfb.heap HD.out not_false)
    have HSZb := hid (Nat.le_trans HSZ.out hfb.size)
    have d8 := (HX8.out.fr hfb not_false).cell
    clear hfb q0 d7
    by_cases hm0 : M.length = 0
    · have q1 : ((M.length : Int) == 0) = true := by rw [hm0]; rfl
      have d4 := Z4b.out.cell
      have z4 := Z4b.out.frozen
      have X9 := hid (Z4b.out.set (.bool true))
      have F9 := hid (FWb.out.setCell (p := ⟨w.heap.size, 0, none⟩) (.inr (Nat.le_refl _)) (.bool true))
      have hBD := HBD.out
      have hD9 : (Wb.setCell ⟨w.heap.size, 0, none⟩ (.bool true)).heap[w5.heap.size]? = some (.deferred (some [])) := ((Fr.refl (fun k => k = w.heap.size) Wb).setCell (p := ⟨w.heap.size, 0, none⟩) (.inl rfl) _).heap HDb.out (by omega)
      go_wp2_with fail
      exact leave_mark hD9 (leave0 (results_cell1 rfl rfl (X9.out.fr (put1 _ _ _) (by omega))) ⟨rfl, F9.out.putObj (.inr (by omega)) _⟩)
    have q1 : ((M.length : Int) == 0) = false := by rw [beq_eq_false_iff_ne]; omega
    go_wp2_with fail
    refine (number_any at_ M.length Wb (by omega) (by omega) HB1.out HC1.out).mono ?_
    rintro e W' ⟨rfl, rfl⟩
    obtain ⟨k, hk⟩ : ∃ k : Nat, at_ % (M.length : Int) = k := ⟨(at_ % (M.length : Int)).toNat, by have := Int.emod_nonneg at_ (show (M.length : Int) ≠ 0 by omega); omega⟩
    have hkl : k < M.length := by have := Int.emod_lt_of_pos at_ (show (0 : Int) < M.length by omega); omega
    rw [hk]
    clear hk d8
    have FA := hid (((Fr.refl (fun _ => False) Wb).alloc (.cells #[.int .i64 k] 3)).alloc (.cells #[.int .i64 0] 3))
    have XK := hid (show Bx ((Wb.alloc (.cells #[.int .i64 k] 3)).alloc (.cells #[.int .i64 0] 3)) Wb.heap.size 3 (.int .i64 k) from (Bx.new Wb _ _).fr ((Fr.refl (fun _ => False) _).alloc _) not_false)
    have XJ := hid (show Bx ((Wb.alloc (.cells #[.int .i64 k] 3)).alloc (.cells #[.int .i64 0] 3)) (Wb.heap.size + 1) 3 (.int .i64 0) from by
      have := Bx.new (Wb.alloc (.cells #[.int .i64 k] 3)) 3 (.int .i64 0)
      rwa [World.size_alloc] at this)
    go_upto_region 22 with fail
    generalize hw7 : (Wb.alloc (.cells #[.int .i64 k] 3)).alloc (.cells #[.int .i64 0] 3) = w7 at *
    clear hw7
    have FW7 := hid (FWb.out.trans' FA.out)
    go_wp2_with fail
    refine (HEA.out w7 FW7.out).mono ?_
    rintro e w8 ⟨B', v2', rfl, hf8, hB', hB1', hcb', hvl2'⟩
    have HIT3 := hid (HIT.out _ _ _ _ hB' hB1' hcb' hvl2')
    have F78 := hid hf8
    have YK := hid (XK.out.fr hf8 not_false); have YJ := hid (XJ.out.fr hf8 not_false)
    have LK := hid XK.out.lt; have LJ := hid XJ.out.lt
    clear hf8 hB' hB1' hcb' hvl2'
    go_wp2_with fail
    refine range_lo (gf := 44) (lb := #[.pointer (some ⟨B', 0, none⟩)]) (encs := encN) (lo := loN) (B0 := w7.heap.size) rfl (enters_of Tryd.func44 (by kernel_rfl) rfl) F78.out.size (fun _ => rfl) HIT3.out (fun _ _ _ h => h.2.1)
      (fun pre W9 => Fr (fun q => q = Wb.heap.size + 1) w8 W9 ∧ Bx W9 (Wb.heap.size + 1) 3 (.int .i64 pre.length) ∧ pre.length ≤ k) (fun c pre W9 => c = .exit 2 ∧ Fr (fun q => q = Wb.heap.size + 1) w8 W9 ∧ Bx W9 (Wb.heap.size + 1) 3 (.int .i64 k))
      (fun pre X Y _ h hf => ⟨h.1.trans hf (fun _ _ h => h) (fun k hk e => by omega), h.2.1.fr hf (by have := LJ.out; have := F78.out.size; omega), h.2.2⟩)
      (fun c pre X Y h hf => ⟨h.1, h.2.1.trans hf (fun _ _ h => h) (fun k hk e => by omega), h.2.2.fr hf (by have := LJ.out; have := F78.out.size; omega)⟩) ⟨Fr.refl _ _, YJ.out, Nat.zero_le _⟩ ?round ?done ?stop
    case done =>
      rintro xs W9 hxs ⟨-, -, hle⟩ - -
      have hxs' : xs.length = M.length := hxs
      omega
    case round =>
      rintro l pre ⟨y, u, lo⟩ W9 ⟨hf9, hj9, hle⟩ - hsz9
      dsimp only [encN]
      gi_wp2_with fail
      refine ⟨Fr.refl _ _, fun w10 hf10 hs10 => ?_⟩
      have J10 := hid (hj9.fr hf10 (by have := LJ.out; have := F78.out.size; omega))
      have K10 := hid ((YK.out.fr hf9 (by omega)).fr hf10 (by have := LK.out; have := F78.out.size; omega))
      have F10 := hid (hf9.trans hf10 (U := fun q => q = Wb.heap.size + 1) (fun _ _ h => h) (fun q hq e => by omega))
      clear hf9 hj9 hf10 hs10
      have dj := J10.out.cell
      have zj := J10.out.frozen
      have dk := K10.out.cell
      by_cases hek : pre.length = k
      · have q5 : ((pre.length : Int) == (k : Int)) = true := by rw [hek]; exact beq_self_eq_true _
        gi_wp2_with fail
        refine ⟨Fr.refl _ _, rfl, F10.out, ?_⟩
        rw [← hek]
        exact J10.out
      · have q5 : ((pre.length : Int) == (k : Int)) = false := by rw [beq_eq_false_iff_ne]; omega
        have hwr : IntKind.i64.wrap ((pre.length : Int) + 1) = (pre.length : Int) + 1 := IntWalk.i64_in _ (by omega)
        gi_wp2_with fail
        refine ⟨(Fr.refl _ _).setCell (p := ⟨Wb.heap.size + 1, 0, none⟩) (.inl (.inl LJ.out)) _, F10.out.setCell (p := ⟨Wb.heap.size + 1, 0, none⟩) (.inl rfl) _, ?_, by simp; omega⟩
        have := J10.out.set (.int .i64 ((pre.length : Int) + 1))
        simpa using this
    case stop =>
      rintro c pre W9 - ⟨rfl, hf9, hj9⟩ hsz9 hD9
      have K9 := hid (YK.out.fr hf9 (by omega))
      have F09 := hid ((FW7.out.trans' F78.out).trans hf9 (U := fun _ => False) (fun _ _ h => h) (fun q hq e => by have := HBD.out; have := HSZb.out; omega))
      have F79 := hid (((FA.out.trans' F78.out).mono (T := fun q => q = Wb.heap.size + 1) fun _ _ h => h.elim).trans' hf9)
      have M4 := hid (Z4b.out.fr F79.out (by have := HBD.out; have := HSZb.out; omega))
      have HD1 := hid (F79.out.heap HDb.out (by have := HSZb.out; omega))
      have HD2 := hid hD9
      have dj := hj9.cell
      have dk := K9.out.cell
      have d4 := M4.out.cell
      have z4 := M4.out.frozen
      have q5 : ((k : Int) == (k : Int)) = true := beq_self_eq_true _
      have X9 := hid (M4.out.set (.bool true))
      have F9 := hid (F09.out.setCell (p := ⟨w.heap.size, 0, none⟩) (.inr (Nat.le_refl _)) (.bool true))
      have hS9 : Fr (fun q => q = w.heap.size) W9 (W9.setCell ⟨w.heap.size, 0, none⟩ (.bool true)) := (Fr.refl (fun q => q = w.heap.size) W9).setCell (p := ⟨w.heap.size, 0, none⟩) (.inl rfl) _
      have hl1 : w.heap.size < w5.heap.size := HBD.out
      have hl2 : w5.heap.size < w8.heap.size := by have := HSZb.out; have := LK.out; have := F78.out.size; omega
      have hDa := hid (hS9.heap HD2.out (by omega))
      have hDb := hid (hS9.heap HD1.out (by omega))
      clear hf9 hsz9 hD9 hS9
      go_wp2_with fail
      exact leave_mark hDa.out (leave_mark ((put1 _ _ _).heap hDb.out (by omega)) (leave0 (results_cell1 rfl rfl ((X9.out.fr (put1 _ _ _) (by omega)).fr (put1 _ _ _) (by omega))) ⟨rfl, (F9.out.putObj (.inr (by omega)) _).putObj (.inr (by omega)) _⟩))
end
end Go.Proofs.YteihmagldhmjgaaDoor
