import Derived.Test.YtbegahbagnflnaaGreatDoorMn07
import Derived.Test.YtbegahbagnflnaaGreatDoorMn22
import Derived.Test.YtbegahbagnflnaaGreatDoorMn01
import Derived.Test.YtbegahbagnflnaaGreatDoorMn10
import Derived.Test.YtbegahbagnflnaaGreatDoorMn06
set_option linter.unusedSimpArgs false
set_option linter.unusedVariables false
set_option linter.unnecessarySimpa false
namespace Go.Proofs.YtbegahbagnflnaaGreatDoor
section
open Go.RowKit
set_option maxHeartbeats 1600000 in
theorem nsames_of (N : Nat) (ih : ∀ (x : Nd), x.sz ≤ N → ∀ (D E : Nat → Prop) (w : World) (u u' : Array Value), NIn D w x u → NIn E w x u' →
   Calls Tryz.prog 35 #[.agg u, .agg u'] w fun e w' => e = .returned (.bool true) ∧ Fr (fun _ => False) w w')
  (l : List Nd) (hl : szL l ≤ N) (D E : Nat → Prop) (w : World) (v v' : Value) (h : NL D w l v) (h' : NL E w l v') :
  Calls Tryz.prog 12 #[v, v'] w fun e w' => e = .returned (.bool true) ∧ Fr (fun _ => False) w w' := by
 obtain ⟨a, cap, us, rfl, hc, hm, hn, hb, hi⟩ := h
 obtain ⟨a', cap', us', rfl, hc', hm', hn', hb', hi'⟩ := h'
 have hlm : l.length ≤ 9223372036854775807 := Nat.le_trans hc hm
 have q4 : ((l.length : Int) != (l.length : Int)) = false := by simp
 have HB := hid hb; have HI := hid hi; have HN := hid hl
 have HB' := hid hb'; have HI' := hid hi'
 clear hb hi hl hn hb' hi' hn' hc' hm'
 go_enter Tryz.func12, Tryz.ntmps12
 go_wp2
 clear q4
 go_loopw [5] (fun i wr => ∃ k : Nat, k ≤ l.length ∧ i = .int .i64 k ∧ Fr (fun _ => False) w wr) (fun i _ => l.length - (intOf i).toNat)
 case atStart => exact ⟨0, Nat.zero_le _, rfl, Fr.refl _ _⟩
 case round =>
  obtain ⟨k, hk, rfl, hf⟩ := hrel
  by_cases hlt : k < l.length
  ·obtain ⟨b, o, y, yva, c1, a2, c2, rfl, -, hy, hv, e0, e1, e2, e3, e4, e5, e6, e7⟩ := NL.elem HB.out HI.out k hlt
   obtain ⟨b', o', y', yva', c1', a2', c2', rfl, -, hy', hv', f0, f1, f2, f3, f4, f5, f6, f7⟩ := NL.elem HB'.out HI'.out k hlt
   rw [hy] at hy'
   obtain rfl := Option.some.inj hy'
   have t2 := szL_mem hy
   have hy1 : y.sz ≤ N := by have := HN.out; omega
   have hc := ih y hy1 D E
   clear t2 hy1 hy
   have HFr := hid hf; have HV := hid hv; have HV' := hid hv'; have HC := hid hc
   have E0 := hid e0; have E1 := hid e1; have E2 := hid e2; have E3 := hid e3; have E4 := hid e4; have E5 := hid e5; have E6 := hid e6; have E7 := hid e7
   have G0 := hid f0; have G1 := hid f1; have G2 := hid f2; have G3 := hid f3; have G4 := hid f4; have G5 := hid f5; have G6 := hid f6; have G7 := hid f7
   clear hf hv hv' hc hy' f0 e0 f1 e1 f2 e2 f3 e3 f4 e4 f5 e5 f6 e6 f7 e7
   go_upto_region 6 with fail
   refine wp_region_cls (fun w' => Fr (fun _ => False) wr w') (by kernel_rfl) (by kernel_rfl) (Fr.refl _ _).drew ?_
   iterate 3 (refine q_take ?_ (by kernel_rfl) ?_ ?_; rotate_left; (· intro w' hS; go_simp; try with_reducible rfl); (try simp only [Act.put, List.setIfInBounds_toArray, List.set_cons_zero, List.set_cons_succ]))
   (refine q_take ?_ (by kernel_rfl) ?_ ?_; rotate_left; (· intro w' hS; have d0 := (HFr.out.trans' hS).cell E0.out not_false; have d1 := (HFr.out.trans' hS).cell E1.out not_false; have d2 := (HFr.out.trans' hS).cell E2.out not_false; have d3 := (HFr.out.trans' hS).cell E3.out not_false; have d4 := (HFr.out.trans' hS).cell E4.out not_false; have d5 := (HFr.out.trans' hS).cell E5.out not_false; have d6 := (HFr.out.trans' hS).cell E6.out not_false; have d7 := (HFr.out.trans' hS).cell E7.out not_false; go_simp; try with_reducible rfl); try simp only [Act.put, List.setIfInBounds_toArray, List.set_cons_zero, List.set_cons_succ])
   iterate 3 (refine q_take ?_ (by kernel_rfl) ?_ ?_; rotate_left; (· intro w' hS; go_simp; try with_reducible rfl); (try simp only [Act.put, List.setIfInBounds_toArray, List.set_cons_zero, List.set_cons_succ]))
   (refine q_take ?_ (by kernel_rfl) ?_ ?_; rotate_left; (· intro w' hS; have d0 := (HFr.out.trans' hS).cell G0.out not_false; have d1 := (HFr.out.trans' hS).cell G1.out not_false; have d2 := (HFr.out.trans' hS).cell G2.out not_false; have d3 := (HFr.out.trans' hS).cell G3.out not_false; have d4 := (HFr.out.trans' hS).cell G4.out not_false; have d5 := (HFr.out.trans' hS).cell G5.out not_false; have d6 := (HFr.out.trans' hS).cell G6.out not_false; have d7 := (HFr.out.trans' hS).cell G7.out not_false; go_simp; try with_reducible rfl); try simp only [Act.put, List.setIfInBounds_toArray, List.set_cons_zero, List.set_cons_succ])
   (refine q_call ?_ ?_ (by kernel_rfl) ?_ ?_; rotate_left 2; (· intro w' hS; go_simp; first | with_reducible rfl | (constructor <;> with_reducible rfl)); (refine ⟨_, fun w' hw => (HC.out w' _ _ (HV.out.frame (HFr.out.trans' hw) (fun _ _ => id)) (HV'.out.frame (HFr.out.trans' hw) (fun _ _ => id))).mono fun _ _ h => ⟨h.1, hw.trans' h.2⟩, ?_⟩); (try simp only [Act.put, List.setIfInBounds_toArray, List.set_cons_zero, List.set_cons_succ]))
   (refine q_take ?_ (by kernel_rfl) ?_ ?_; rotate_left; (· intro w' hS; go_simp; try with_reducible rfl); (try simp only [Act.put, List.setIfInBounds_toArray, List.set_cons_zero, List.set_cons_succ]))
   refine q_end (fun w' hw => ?_)
   have HE := hid (HFr.out.trans' hw)
   clear hw
   go_wp2
   go_roundw
   case rel => exact ⟨k + 1, by omega, by go_num, HE.out⟩
   case measure => simp [intOf]; omega
  ·go_wp2
   go_ret
   exact ⟨rfl, hf⟩
set_option maxHeartbeats 1600000 in
theorem nsame_refl : ∀ (N : Nat) (x : Nd), x.sz ≤ N → ∀ (D E : Nat → Prop) (w : World) (u u' : Array Value), NIn D w x u → NIn E w x u' →
  Calls Tryz.prog 35 #[.agg u, .agg u'] w fun e w' => e = .returned (.bool true) ∧ Fr (fun _ => False) w w' := by
 intro N
 induction N with
 | zero =>
  intro x h
  rw [Nd.sz_eq] at h
  omega
 | succ N ih =>
  intro x hN D E w u u' h h'
  have hs := Nd.sz_eq x
  obtain ⟨va, v, rfl, hX, hL⟩ := h.open
  obtain ⟨va', v', rfl, hX', hL'⟩ := h'.open
  have hcall := nsames_of N ih x.l (by omega) D E
  obtain ⟨a1, c1, us1, rfl, -⟩ := id hX
  obtain ⟨a1', c1', us1', rfl, -⟩ := id hX'
  obtain ⟨a, cap, us, rfl, -⟩ := id hL
  obtain ⟨a', cap', us', rfl, -⟩ := id hL'
  have hval := rsame_refl x.v.size x.v (Nat.le_refl _) D E
  have hxv : VIn D w x.v #[.int .i64 x.v.k, .int .i64 x.v.n, .string x.v.s, .slice a1 x.v.l.length c1] := by
   have := hX.close x.v.k x.v.n x.v.s
   have e : x.v = .mk x.v.k x.v.n x.v.s x.v.l := by cases x.v; rfl
   rw [← e] at this; exact this
  have hxv' : VIn E w x.v #[.int .i64 x.v.k, .int .i64 x.v.n, .string x.v.s, .slice a1' x.v.l.length c1'] := by
   have := hX'.close x.v.k x.v.n x.v.s
   have e : x.v = .mk x.v.k x.v.n x.v.s x.v.l := by cases x.v; rfl
   rw [← e] at this; exact this
  have HV := hid hval; have HX := hid hxv; have HX' := hid hxv'
  clear hval hxv hxv' hX hX'
  generalize x.op = oo at *
  generalize x.ln = nn at *
  generalize x.s = ss at *
  generalize x.v.k = vk at *
  generalize x.v.n = vn at *
  generalize x.v.s = vs at *
  generalize x.v.l.length = vl at *
  generalize x.l = l at *
  have q1 : (oo == oo) = true := by simp
  have q2 : (nn == nn) = true := by simp
  have q3 : (ss.toList == ss.toList) = true := by simp
  have HL := hid hL; have HL' := hid hL'; have HC := hid hcall
  clear hL hL' hcall hs hN h h'
  have hF : Fr (fun _ => False) w ((w.alloc (.cells #[.int .i64 oo, .int .i64 nn, .string ss, .int .i64 vk, .int .i64 vn, .string vs, .slice a1 vl c1, .slice a l.length cap] 75)).alloc (.cells #[.int .i64 oo, .int .i64 nn, .string ss, .int .i64 vk, .int .i64 vn, .string vs, .slice a1' vl c1', .slice a' l.length cap'] 75)) := ((Fr.refl _ _).alloc _).alloc _
  have hb2 : ((w.alloc (.cells #[.int .i64 oo, .int .i64 nn, .string ss, .int .i64 vk, .int .i64 vn, .string vs, .slice a1 vl c1, .slice a l.length cap] 75)).alloc (.cells #[.int .i64 oo, .int .i64 nn, .string ss, .int .i64 vk, .int .i64 vn, .string vs, .slice a1' vl c1', .slice a' l.length cap'] 75)).heap[w.heap.size]? = some (.cells #[.int .i64 oo, .int .i64 nn, .string ss, .int .i64 vk, .int .i64 vn, .string vs, .slice a1 vl c1, .slice a l.length cap] 75) := ((Fr.refl (fun _ => False) _).alloc _).heap (heap_alloc_new w _) not_false
  have hb3 : ((w.alloc (.cells #[.int .i64 oo, .int .i64 nn, .string ss, .int .i64 vk, .int .i64 vn, .string vs, .slice a1 vl c1, .slice a l.length cap] 75)).alloc (.cells #[.int .i64 oo, .int .i64 nn, .string ss, .int .i64 vk, .int .i64 vn, .string vs, .slice a1' vl c1', .slice a' l.length cap'] 75)).heap[w.heap.size + 1]? = some (.cells #[.int .i64 oo, .int .i64 nn, .string ss, .int .i64 vk, .int .i64 vn, .string vs, .slice a1' vl c1', .slice a' l.length cap'] 75) := by
   have := heap_alloc_new (w.alloc (.cells #[.int .i64 oo, .int .i64 nn, .string ss, .int .i64 vk, .int .i64 vn, .string vs, .slice a1 vl c1, .slice a l.length cap] 75)) (.cells #[.int .i64 oo, .int .i64 nn, .string ss, .int .i64 vk, .int .i64 vn, .string vs, .slice a1' vl c1', .slice a' l.length cap'] 75)
   simpa using this
  go_enter Tryz.func35, Tryz.ntmps35
  go_upto_region 1 with fail
  generalize (w.alloc (.cells #[.int .i64 oo, .int .i64 nn, .string ss, .int .i64 vk, .int .i64 vn, .string vs, .slice a1 vl c1, .slice a l.length cap] 75)).alloc (.cells #[.int .i64 oo, .int .i64 nn, .string ss, .int .i64 vk, .int .i64 vn, .string vs, .slice a1' vl c1', .slice a' l.length cap'] 75) = W at *
  have d0 : W.cell? ⟨w.heap.size, 0, none⟩ = some (.int .i64 oo) := by rw [cell_of_row W _ 0 _ _ _ hb2]; rfl
  have d1 : W.cell? ⟨w.heap.size, 1, none⟩ = some (.int .i64 nn) := by rw [cell_of_row W _ 1 _ _ _ hb2]; rfl
  have d2 : W.cell? ⟨w.heap.size, 2, none⟩ = some (.string ss) := by rw [cell_of_row W _ 2 _ _ _ hb2]; rfl
  have d3 : W.cell? ⟨w.heap.size, 3, none⟩ = some (.int .i64 vk) := by rw [cell_of_row W _ 3 _ _ _ hb2]; rfl
  have d4 : W.cell? ⟨w.heap.size, 4, none⟩ = some (.int .i64 vn) := by rw [cell_of_row W _ 4 _ _ _ hb2]; rfl
  have d5 : W.cell? ⟨w.heap.size, 5, none⟩ = some (.string vs) := by rw [cell_of_row W _ 5 _ _ _ hb2]; rfl
  have d6 : W.cell? ⟨w.heap.size, 6, none⟩ = some (.slice a1 vl c1) := by rw [cell_of_row W _ 6 _ _ _ hb2]; rfl
  have d7 : W.cell? ⟨w.heap.size, 7, none⟩ = some (.slice a l.length cap) := by rw [cell_of_row W _ 7 _ _ _ hb2]; rfl
  have g0 : W.cell? ⟨w.heap.size + 1, 0, none⟩ = some (.int .i64 oo) := by rw [cell_of_row W _ 0 _ _ _ hb3]; rfl
  have g1 : W.cell? ⟨w.heap.size + 1, 1, none⟩ = some (.int .i64 nn) := by rw [cell_of_row W _ 1 _ _ _ hb3]; rfl
  have g2 : W.cell? ⟨w.heap.size + 1, 2, none⟩ = some (.string ss) := by rw [cell_of_row W _ 2 _ _ _ hb3]; rfl
  have g3 : W.cell? ⟨w.heap.size + 1, 3, none⟩ = some (.int .i64 vk) := by rw [cell_of_row W _ 3 _ _ _ hb3]; rfl
  have g4 : W.cell? ⟨w.heap.size + 1, 4, none⟩ = some (.int .i64 vn) := by rw [cell_of_row W _ 4 _ _ _ hb3]; rfl
  have g5 : W.cell? ⟨w.heap.size + 1, 5, none⟩ = some (.string vs) := by rw [cell_of_row W _ 5 _ _ _ hb3]; rfl
  have g6 : W.cell? ⟨w.heap.size + 1, 6, none⟩ = some (.slice a1' vl c1') := by rw [cell_of_row W _ 6 _ _ _ hb3]; rfl
  have g7 : W.cell? ⟨w.heap.size + 1, 7, none⟩ = some (.slice a' l.length cap') := by rw [cell_of_row W _ 7 _ _ _ hb3]; rfl
  have HF := hid hF; have H2 := hid hb2; have H3 := hid hb3
  clear hF hb2 hb3
  go_wp2_with fail
  refine (HC.out _ _ _ (HL.out.frame HF.out fun _ _ => id) (HL'.out.frame HF.out fun _ _ => id)).mono ?_
  rintro e w2 ⟨rfl, hf2⟩
  replace d0 := hf2.cell d0 not_false
  replace d1 := hf2.cell d1 not_false
  replace d2 := hf2.cell d2 not_false
  replace d3 := hf2.cell d3 not_false
  replace d4 := hf2.cell d4 not_false
  replace d5 := hf2.cell d5 not_false
  replace d6 := hf2.cell d6 not_false
  replace d7 := hf2.cell d7 not_false
  replace g0 := hf2.cell g0 not_false
  replace g1 := hf2.cell g1 not_false
  replace g2 := hf2.cell g2 not_false
  replace g3 := hf2.cell g3 not_false
  replace g4 := hf2.cell g4 not_false
  replace g5 := hf2.cell g5 not_false
  replace g6 := hf2.cell g6 not_false
  replace g7 := hf2.cell g7 not_false
  have HF2 := hid (HF.out.trans' hf2)
  clear hf2
  go_wp2_with fail
  refine (HV.out _ _ _ (HX.out.frame HF2.out fun _ _ => id) (HX'.out.frame HF2.out fun _ _ => id)).mono ?_
  rintro e w3 ⟨rfl, hf3⟩
  replace d0 := hf3.cell d0 not_false
  replace d1 := hf3.cell d1 not_false
  replace d2 := hf3.cell d2 not_false
  replace d3 := hf3.cell d3 not_false
  replace d4 := hf3.cell d4 not_false
  replace d5 := hf3.cell d5 not_false
  replace d6 := hf3.cell d6 not_false
  replace d7 := hf3.cell d7 not_false
  replace g0 := hf3.cell g0 not_false
  replace g1 := hf3.cell g1 not_false
  replace g2 := hf3.cell g2 not_false
  replace g3 := hf3.cell g3 not_false
  replace g4 := hf3.cell g4 not_false
  replace g5 := hf3.cell g5 not_false
  replace g6 := hf3.cell g6 not_false
  replace g7 := hf3.cell g7 not_false
  have HF3 := hid (HF2.out.trans' hf3)
  clear hf3
  go_wp2
  go_ret
  exact ⟨rfl, HF3.out⟩
theorem nsames_refl (l : List Nd) (D E : Nat → Prop) (w : World) (v v' : Value) (h : NL D w l v) (h' : NL E w l v') : Calls Tryz.prog 12 #[v, v'] w fun e w' => e = .returned (.bool true) ∧ Fr (fun _ => False) w w' :=
 nsames_of (szL l) (nsame_refl (szL l)) l (Nat.le_refl _) D E w v v' h h'
end
section
open Go.RowKit
theorem tmod_emod (n m : Int) (hm : 0 < m) : (n % m = if n.tmod m < 0 then n.tmod m + m else n.tmod m) ∧ -m < n.tmod m := by
 have h1 := Int.tmod_eq_emod (a := n) (b := m)
 have h2 := Int.emod_nonneg n (show m ≠ 0 by omega)
 have h3 := Int.emod_lt_of_pos n hm
 have hna : (m.natAbs : Int) = m := by omega
 by_cases hd : 0 ≤ n ∨ m ∣ n
 ·rw [if_pos hd] at h1
  have h4 : n.tmod m = n % m := by simpa using h1
  rw [h4]
  rw [if_neg (by omega)]
  exact ⟨rfl, by omega⟩
 ·rw [if_neg hd, hna] at h1
  have hpos : n % m ≠ 0 := fun e => hd (.inr (Int.dvd_of_emod_eq_zero e))
  rw [h1, if_pos (by omega)]
  exact ⟨by omega, by omega⟩
theorem number_any (n m : Int) (w : World) (hm : 0 < m) (hm2 : m < 4611686018427387904) (hn1 : -9223372036854775808 ≤ n) (hn2 : n ≤ 9223372036854775807) :
  Calls Tryz.prog 15 #[.int .i64 n, .int .i64 m] w fun e w' => e = .returned (.int .i64 (n % m)) ∧ w = w' := by
 obtain ⟨h1, b2⟩ := tmod_emod n m hm
 have b1 : n.tmod m < m := Int.tmod_lt_of_pos n hm
 have hm0 : (m == 0) = false := by rw [beq_eq_false_iff_ne]; omega
 have hm1 : (m == -1) = false := by rw [beq_eq_false_iff_ne]; omega
 have H1 := hid h1; clear h1
 by_cases h : n.tmod m < 0
 ·go_enter Tryz.func15, Tryz.ntmps15
  go_wp2
  go_ret
  exact ⟨ret_int (by rw [H1.out, if_pos h]), rfl⟩
 ·go_enter Tryz.func15, Tryz.ntmps15
  go_wp2
  go_ret
  exact ⟨ret_int (by rw [H1.out, if_neg (by omega)]), rfl⟩
end
section
open Go.RowKit
end
section
open Go.RowKit
end
section
open Go.RowKit
def faultF (f : Flt) : Value := faultV f.c f.p f.l
theorem faultQ_eq (q : Nat × Int) : faultQ q = faultF (fltAt q) := by
 unfold faultQ fltAt
 split <;> rfl
set_option maxRecDepth 100000 in
set_option maxHeartbeats 1000000 in
theorem dvalid_any (l : List Nd) (hz : szL l ≤ 1099511627776) (D : Nat → Prop) (w : World) (v : Value) (h : NL D w l v) :
  Calls Tryz.prog 19 #[v] w fun e w' => e = .returned (faultF (pValid l 7)) ∧ Fr (fun _ => False) w w' := by
 have hcs := cntL_szL l
 have hf0 := (Fr.refl (fun _ => False) w).alloc (.cells #[.int .i64 0, .bool false, .int .i64 0, .int .i64 0, .int .i64 0, .string ⟨#[]⟩, .slice none 0 0] 46)
 have hr0 := heap_alloc_new w (.cells #[.int .i64 0, .bool false, .int .i64 0, .int .i64 0, .int .i64 0, .string ⟨#[]⟩, .slice none 0 0] 46)
 have HTM := hid (dtoomany_any l (by omega) D _ v (h.frame hf0 fun _ _ => not_false))
 have HDP := hid (fun w2 (hf : Fr (fun _ => False) w w2) => ddeep_any (cntL l + 1) l (by omega) (by omega) D w2 v (h.frame hf fun _ _ => not_false))
 have hdc := depL_le' l
 obtain ⟨a, cap, us, rfl, hc, hm, hn, hb, hi⟩ := h
 have HPV := hid (show pValid l 7 = if 4096 < cntL l then ⟨104, false, 0⟩ else if 40 < depL l then ⟨112, false, 0⟩ else fltAt (pVals 7 l) from rfl)
 have hW : ¬ 4096 < cntL l → ∀ (k : Nat) (y : Nd), l[k]? = some y → ∀ (w2 : World) (u : Array Value), NIn D w2 y u → Calls Tryz.prog 42 #[.agg u, .int .i64 9, .bool false] w2 fun e w' => e = .returned (faultQ (pWalk y 7 false)) ∧ Fr (fun _ => False) w2 w' := fun hl k y hy w2 u hn => by
  have h1 := cntL_mem hy
  have h2 := szL_mem hy
  exact dodd_any (y.cnt + 1) y (by omega) (by omega) (by omega) 7 (by decide) (by decide) false D w2 u hn
 have hll : (l.length : Int) ≤ 1099511627776 := by have := len_le_cnt l; omega
 have hdI : (depL l : Int) ≤ 1099511627776 := by omega
 have HW := hid hW; have HB := hid hb; have HI := hid hi; have HF0 := hid hf0; have HR0 := hid hr0
 clear hW hb hi hz hcs hdc hc hm hn hf0 hr0
 generalize pValid l 7 = pv at *
 go_enter Tryz.func19, Tryz.ntmps19
 go_upto_region 1 with fail
 generalize hW0 : w.alloc (.cells #[.int .i64 0, .bool false, .int .i64 0, .int .i64 0, .int .i64 0, .string ⟨#[]⟩, .slice none 0 0] 46) = W0 at *
 clear hW0
 go_wp2_with fail
 refine HTM.out.mono ?_
 rintro e w1 ⟨rfl, hf1⟩
 have HF1 := hid (HF0.out.trans' hf1); have HR1 := hid (hf1.heap HR0.out not_false)
 clear hf1
 by_cases hbig : 4096 < cntL l
 ·have HX := hid (show pv = ⟨104, false, 0⟩ by rw [HPV.out, if_pos hbig])
  rw [decide_eq_true hbig]
  clear hbig
  go_wp2_with fail
  refine (bare_any 104 w1).mono ?_
  rintro e w2 ⟨rfl, hf2⟩
  unfold bareV
  have hrow := hf2.heap HR1.out not_false
  have HF2 := hid (HF1.out.trans' hf2)
  clear hf2
  have z0 : w2.cell? ⟨w.heap.size, 0, none⟩ = some (.int .i64 0) := by rw [cell_of_row _ _ 0 _ _ _ hrow]; rfl
  have z1 : w2.cell? ⟨w.heap.size, 1, none⟩ = some (.bool false) := by rw [cell_of_row _ _ 1 _ _ _ hrow]; rfl
  have z2 : w2.cell? ⟨w.heap.size, 2, none⟩ = some (.int .i64 0) := by rw [cell_of_row _ _ 2 _ _ _ hrow]; rfl
  have z3 : w2.cell? ⟨w.heap.size, 3, none⟩ = some (.int .i64 0) := by rw [cell_of_row _ _ 3 _ _ _ hrow]; rfl
  have z4 : w2.cell? ⟨w.heap.size, 4, none⟩ = some (.int .i64 0) := by rw [cell_of_row _ _ 4 _ _ _ hrow]; rfl
  have z5 : w2.cell? ⟨w.heap.size, 5, none⟩ = some (.string ⟨#[]⟩) := by rw [cell_of_row _ _ 5 _ _ _ hrow]; rfl
  have z6 : w2.cell? ⟨w.heap.size, 6, none⟩ = some (.slice none 0 0) := by rw [cell_of_row _ _ 6 _ _ _ hrow]; rfl
  have fz : ∀ i, w2.frozen? ⟨w.heap.size, i, none⟩ = false := fun i => frozen_of_row _ _ i _ _ hrow
  go_wp2_with fail
  have hR2 := (setCell_row 6 (.slice none 0 0) (setCell_row 5 (.string ⟨#[]⟩) (setCell_row 4 (.int .i64 0) (setCell_row 3 (.int .i64 0) (setCell_row 2 (.int .i64 0) (setCell_row 1 (.bool false) (setCell_row 0 (.int .i64 104) hrow)))))))
  simp only [List.setIfInBounds_toArray, List.set_cons_zero, List.set_cons_succ] at hR2
  have hf8 : Fr (fun q => q = w.heap.size) w2 (((((((w2.setCell ⟨w.heap.size, 0, none⟩ (.int .i64 104)).setCell ⟨w.heap.size, 1, none⟩ (.bool false)).setCell ⟨w.heap.size, 2, none⟩ (.int .i64 0)).setCell ⟨w.heap.size, 3, none⟩ (.int .i64 0)).setCell ⟨w.heap.size, 4, none⟩ (.int .i64 0)).setCell ⟨w.heap.size, 5, none⟩ (.string ⟨#[]⟩)).setCell ⟨w.heap.size, 6, none⟩ (.slice none 0 0)) := ((((((((Fr.refl (fun q => q = w.heap.size) w2).setCell (p := ⟨w.heap.size, 0, none⟩) (.inl rfl) (.int .i64 104)).setCell (p := ⟨w.heap.size, 1, none⟩) (.inl rfl) (.bool false)).setCell (p := ⟨w.heap.size, 2, none⟩) (.inl rfl) (.int .i64 0)).setCell (p := ⟨w.heap.size, 3, none⟩) (.inl rfl) (.int .i64 0)).setCell (p := ⟨w.heap.size, 4, none⟩) (.inl rfl) (.int .i64 0)).setCell (p := ⟨w.heap.size, 5, none⟩) (.inl rfl) (.string ⟨#[]⟩)).setCell (p := ⟨w.heap.size, 6, none⟩) (.inl rfl) (.slice none 0 0))
  refine bodyPost_ret (results_cell_row rfl _ _ (w.heap.size) _ _ _ _ rfl hR2 Tryz.underlying46 rfl (by kernel_rfl)) rfl ?_
  exact ⟨by rw [HX.out]; rfl, (HF2.out).trans hf8 (fun _ _ => id) (fun q hq e => by omega)⟩
 rw [decide_eq_false hbig]
 have HBIG := hid hbig
 clear hbig
 go_wp2_with fail
 refine (HDP.out w1 HF1.out).mono ?_
 rintro e w2 ⟨rfl, hf2⟩
 have HF2 := hid (HF1.out.trans' hf2); have HR2 := hid (hf2.heap HR1.out not_false)
 clear hf2
 by_cases hdeep : 40 < depL l
 ·have HX := hid (show pv = ⟨112, false, 0⟩ by rw [HPV.out, if_neg HBIG.out, if_pos hdeep])
  have hd1 : (40 : Int) < depL l := by omega
  clear hdeep
  go_wp2_with fail
  refine (bare_any 112 w2).mono ?_
  rintro e w3 ⟨rfl, hf3⟩
  unfold bareV
  have hrow := hf3.heap HR2.out not_false
  have HF3 := hid (HF2.out.trans' hf3)
  clear hf3
  have z0 : w3.cell? ⟨w.heap.size, 0, none⟩ = some (.int .i64 0) := by rw [cell_of_row _ _ 0 _ _ _ hrow]; rfl
  have z1 : w3.cell? ⟨w.heap.size, 1, none⟩ = some (.bool false) := by rw [cell_of_row _ _ 1 _ _ _ hrow]; rfl
  have z2 : w3.cell? ⟨w.heap.size, 2, none⟩ = some (.int .i64 0) := by rw [cell_of_row _ _ 2 _ _ _ hrow]; rfl
  have z3 : w3.cell? ⟨w.heap.size, 3, none⟩ = some (.int .i64 0) := by rw [cell_of_row _ _ 3 _ _ _ hrow]; rfl
  have z4 : w3.cell? ⟨w.heap.size, 4, none⟩ = some (.int .i64 0) := by rw [cell_of_row _ _ 4 _ _ _ hrow]; rfl
  have z5 : w3.cell? ⟨w.heap.size, 5, none⟩ = some (.string ⟨#[]⟩) := by rw [cell_of_row _ _ 5 _ _ _ hrow]; rfl
  have z6 : w3.cell? ⟨w.heap.size, 6, none⟩ = some (.slice none 0 0) := by rw [cell_of_row _ _ 6 _ _ _ hrow]; rfl
  have fz : ∀ i, w3.frozen? ⟨w.heap.size, i, none⟩ = false := fun i => frozen_of_row _ _ i _ _ hrow
  go_wp2_with fail
  have hR2 := (setCell_row 6 (.slice none 0 0) (setCell_row 5 (.string ⟨#[]⟩) (setCell_row 4 (.int .i64 0) (setCell_row 3 (.int .i64 0) (setCell_row 2 (.int .i64 0) (setCell_row 1 (.bool false) (setCell_row 0 (.int .i64 112) hrow)))))))
  simp only [List.setIfInBounds_toArray, List.set_cons_zero, List.set_cons_succ] at hR2
  have hf8 : Fr (fun q => q = w.heap.size) w3 (((((((w3.setCell ⟨w.heap.size, 0, none⟩ (.int .i64 112)).setCell ⟨w.heap.size, 1, none⟩ (.bool false)).setCell ⟨w.heap.size, 2, none⟩ (.int .i64 0)).setCell ⟨w.heap.size, 3, none⟩ (.int .i64 0)).setCell ⟨w.heap.size, 4, none⟩ (.int .i64 0)).setCell ⟨w.heap.size, 5, none⟩ (.string ⟨#[]⟩)).setCell ⟨w.heap.size, 6, none⟩ (.slice none 0 0)) := ((((((((Fr.refl (fun q => q = w.heap.size) w3).setCell (p := ⟨w.heap.size, 0, none⟩) (.inl rfl) (.int .i64 112)).setCell (p := ⟨w.heap.size, 1, none⟩) (.inl rfl) (.bool false)).setCell (p := ⟨w.heap.size, 2, none⟩) (.inl rfl) (.int .i64 0)).setCell (p := ⟨w.heap.size, 3, none⟩) (.inl rfl) (.int .i64 0)).setCell (p := ⟨w.heap.size, 4, none⟩) (.inl rfl) (.int .i64 0)).setCell (p := ⟨w.heap.size, 5, none⟩) (.inl rfl) (.string ⟨#[]⟩)).setCell (p := ⟨w.heap.size, 6, none⟩) (.inl rfl) (.slice none 0 0))
  refine bodyPost_ret (results_cell_row rfl _ _ (w.heap.size) _ _ _ _ rfl hR2 Tryz.underlying46 rfl (by kernel_rfl)) rfl ?_
  exact ⟨by rw [HX.out]; rfl, (HF3.out).trans hf8 (fun _ _ => id) (fun q hq e => by omega)⟩
 have hd1 : ¬ (40 : Int) < depL l := by omega
 have HX := hid (show pv = fltAt (pVals 7 l) by rw [HPV.out, if_neg HBIG.out, if_neg hdeep])
 have HW2 := hid (HW.out HBIG.out)
 clear hdeep HW
 go_wp2_with fail
 go_loopw [3] (fun i wr => ∃ k : Nat, k ≤ l.length ∧ i = .int .i64 k ∧ Hid (pVals 7 l = pVals 7 (l.drop k)) ∧ Fr (fun _ => False) w2 wr) (fun i _ => l.length - (intOf i).toNat)
 case atStart => exact ⟨0, Nat.zero_le _, rfl, hid rfl, Fr.refl _ _⟩
 case round =>
  obtain ⟨k, hk, rfl, HS, hf⟩ := hrel
  have HFW := hid (HF2.out.trans' hf); have HFR := hid hf; have HRR := hid (hf.heap HR2.out not_false)
  clear hf
  by_cases hlt : k < l.length
  ·have hlt' : (k : Int) < l.length := by omega
   obtain ⟨b, o, y, yva, c1, a', c', rfl, -, hy, hv, e0, e1, e2, e3, e4, e5, e6, e7⟩ := NL.elem HB.out HI.out k hlt
   replace e0 := HFW.out.cell e0 not_false
   replace e1 := HFW.out.cell e1 not_false
   replace e2 := HFW.out.cell e2 not_false
   replace e3 := HFW.out.cell e3 not_false
   replace e4 := HFW.out.cell e4 not_false
   replace e5 := HFW.out.cell e5 not_false
   replace e6 := HFW.out.cell e6 not_false
   replace e7 := HFW.out.cell e7 not_false
   have HST := hid (pVals_step (role := 7) hy)
   have HOD := hid (HW2.out k y hy wr _ (hv.frame HFW.out fun _ _ => not_false))
   obtain ⟨q9, hq9⟩ : ∃ q9, pWalk y 7 false = q9 := ⟨_, rfl⟩
   rw [hq9] at HST HOD
   have HST := hid HST.out
   obtain ⟨fc, fp, fl, hfq, hfc, hfx⟩ : ∃ (fc : Int) (fp : Bool) (fl : Int), faultQ q9 = faultV fc fp fl ∧ ((fc != 0) = false ↔ q9.1 = 0) ∧ faultF (fltAt q9) = faultV fc fp fl := by
    rw [← faultQ_eq]
    by_cases hz : q9.1 = 0
    ·exact ⟨0, false, 0, if_pos hz, by simp [hz], if_pos hz⟩
    ·exact ⟨q9.1, true, q9.2, if_neg hz, by simp [hz], if_neg hz⟩
   rw [hfq] at HOD
   have HFC := hid hfc; have HFX := hid hfx
   clear hv hy hq9 hfq hfc hfx
   unfold faultV at HOD
   go_wp2_with fail
   refine HOD.out.mono ?_
   rintro e w8 ⟨rfl, hf8⟩
   have HF8 := hid (HFR.out.trans' hf8); have HFW8 := hid (HFW.out.trans' hf8); have HR8 := hid (hf8.heap HRR.out not_false)
   clear hf8 e0 e1 e2 e3 e4 e5 e6 e7
   have hf9 := (Fr.refl (fun _ => False) w8).alloc (.cells #[.int .i64 fc, .bool fp, .int .i64 fl, .int .i64 0, .int .i64 0, .string ⟨#[]⟩, .slice none 0 0] 46)
   have HGX := hid (heap_alloc_new w8 (.cells #[.int .i64 fc, .bool fp, .int .i64 fl, .int .i64 0, .int .i64 0, .string ⟨#[]⟩, .slice none 0 0] 46))
   have HF9 := hid (HF8.out.trans' hf9); have HFW9 := hid (HFW8.out.trans' hf9); have HR9 := hid (hf9.heap HR8.out not_false)
   clear hf9
   go_upto_region 9 with fail
   generalize hW9 : w8.alloc (.cells #[.int .i64 fc, .bool fp, .int .i64 fl, .int .i64 0, .int .i64 0, .string ⟨#[]⟩, .slice none 0 0] 46) = w9 at *
   obtain ⟨g, hg⟩ : ∃ g, w8.heap.size = g := ⟨_, rfl⟩
   rw [hg] at HGX ⊢
   clear hW9 hg
   have y0 : w9.cell? ⟨g, 0, none⟩ = some (.int .i64 fc) := by rw [cell_of_row _ _ 0 _ _ _ HGX.out]; rfl
   have y1 : w9.cell? ⟨g, 1, none⟩ = some (.bool fp) := by rw [cell_of_row _ _ 1 _ _ _ HGX.out]; rfl
   have y2 : w9.cell? ⟨g, 2, none⟩ = some (.int .i64 fl) := by rw [cell_of_row _ _ 2 _ _ _ HGX.out]; rfl
   have y3 : w9.cell? ⟨g, 3, none⟩ = some (.int .i64 0) := by rw [cell_of_row _ _ 3 _ _ _ HGX.out]; rfl
   have y4 : w9.cell? ⟨g, 4, none⟩ = some (.int .i64 0) := by rw [cell_of_row _ _ 4 _ _ _ HGX.out]; rfl
   have y5 : w9.cell? ⟨g, 5, none⟩ = some (.string ⟨#[]⟩) := by rw [cell_of_row _ _ 5 _ _ _ HGX.out]; rfl
   have y6 : w9.cell? ⟨g, 6, none⟩ = some (.slice none 0 0) := by rw [cell_of_row _ _ 6 _ _ _ HGX.out]; rfl
   by_cases hz9 : q9.1 = 0
   ·have hfc0 := HFC.out.2 hz9
    have HS2 := hid (show pVals 7 l = pVals 7 (l.drop (k + 1)) by rw [HS.out, HST.out, if_pos hz9])
    clear hz9
    go_wp2_with fail
    go_roundw
    case rel => exact ⟨k + 1, by omega, by go_num, HS2, HF9.out⟩
    case measure => simp [intOf]; omega
   ·have hfc0 : (fc != 0) = true := by
     cases h : (fc != 0)
     ·exact absurd (HFC.out.1 h) hz9
     ·rfl
    have HS2 := hid (show faultF pv = faultV fc fp fl by rw [HX.out, HS.out, HST.out, if_neg hz9, HFX.out])
    clear hz9
    have hrow := HR9.out
    have z0 : w9.cell? ⟨w.heap.size, 0, none⟩ = some (.int .i64 0) := by rw [cell_of_row _ _ 0 _ _ _ hrow]; rfl
    have z1 : w9.cell? ⟨w.heap.size, 1, none⟩ = some (.bool false) := by rw [cell_of_row _ _ 1 _ _ _ hrow]; rfl
    have z2 : w9.cell? ⟨w.heap.size, 2, none⟩ = some (.int .i64 0) := by rw [cell_of_row _ _ 2 _ _ _ hrow]; rfl
    have z3 : w9.cell? ⟨w.heap.size, 3, none⟩ = some (.int .i64 0) := by rw [cell_of_row _ _ 3 _ _ _ hrow]; rfl
    have z4 : w9.cell? ⟨w.heap.size, 4, none⟩ = some (.int .i64 0) := by rw [cell_of_row _ _ 4 _ _ _ hrow]; rfl
    have z5 : w9.cell? ⟨w.heap.size, 5, none⟩ = some (.string ⟨#[]⟩) := by rw [cell_of_row _ _ 5 _ _ _ hrow]; rfl
    have z6 : w9.cell? ⟨w.heap.size, 6, none⟩ = some (.slice none 0 0) := by rw [cell_of_row _ _ 6 _ _ _ hrow]; rfl
    have fz : ∀ i, w9.frozen? ⟨w.heap.size, i, none⟩ = false := fun i => frozen_of_row _ _ i _ _ hrow
    go_wp2_with fail
    have hR2 := (setCell_row 6 (.slice none 0 0) (setCell_row 5 (.string ⟨#[]⟩) (setCell_row 4 (.int .i64 0) (setCell_row 3 (.int .i64 0) (setCell_row 2 (.int .i64 fl) (setCell_row 1 (.bool fp) (setCell_row 0 (.int .i64 fc) hrow)))))))
    simp only [List.setIfInBounds_toArray, List.set_cons_zero, List.set_cons_succ] at hR2
    have hf8 : Fr (fun q => q = w.heap.size) w9 (((((((w9.setCell ⟨w.heap.size, 0, none⟩ (.int .i64 fc)).setCell ⟨w.heap.size, 1, none⟩ (.bool fp)).setCell ⟨w.heap.size, 2, none⟩ (.int .i64 fl)).setCell ⟨w.heap.size, 3, none⟩ (.int .i64 0)).setCell ⟨w.heap.size, 4, none⟩ (.int .i64 0)).setCell ⟨w.heap.size, 5, none⟩ (.string ⟨#[]⟩)).setCell ⟨w.heap.size, 6, none⟩ (.slice none 0 0)) := ((((((((Fr.refl (fun q => q = w.heap.size) w9).setCell (p := ⟨w.heap.size, 0, none⟩) (.inl rfl) (.int .i64 fc)).setCell (p := ⟨w.heap.size, 1, none⟩) (.inl rfl) (.bool fp)).setCell (p := ⟨w.heap.size, 2, none⟩) (.inl rfl) (.int .i64 fl)).setCell (p := ⟨w.heap.size, 3, none⟩) (.inl rfl) (.int .i64 0)).setCell (p := ⟨w.heap.size, 4, none⟩) (.inl rfl) (.int .i64 0)).setCell (p := ⟨w.heap.size, 5, none⟩) (.inl rfl) (.string ⟨#[]⟩)).setCell (p := ⟨w.heap.size, 6, none⟩) (.inl rfl) (.slice none 0 0))
    refine bodyPost_ret (results_cell_row rfl _ _ (w.heap.size) _ _ _ _ rfl hR2 Tryz.underlying46 rfl (by kernel_rfl)) rfl ?_
    exact ⟨by rw [HS2.out]; rfl, (HFW9.out).trans hf8 (fun _ _ => id) (fun q hq e => by omega)⟩
  ·obtain rfl : k = l.length := by omega
   have HQ0 := hid (show faultF pv = faultV 0 false 0 by rw [HX.out, HS.out, List.drop_length]; rfl)
   have HNN := hid (none_any wr)
   go_wp2_with fail
   refine HNN.out.mono ?_
   rintro e w9 ⟨rfl, hf9⟩
   unfold bareV
   have hrow := hf9.heap HRR.out not_false
   have HF9 := hid (HFW.out.trans' hf9)
   clear hf9
   have z0 : w9.cell? ⟨w.heap.size, 0, none⟩ = some (.int .i64 0) := by rw [cell_of_row _ _ 0 _ _ _ hrow]; rfl
   have z1 : w9.cell? ⟨w.heap.size, 1, none⟩ = some (.bool false) := by rw [cell_of_row _ _ 1 _ _ _ hrow]; rfl
   have z2 : w9.cell? ⟨w.heap.size, 2, none⟩ = some (.int .i64 0) := by rw [cell_of_row _ _ 2 _ _ _ hrow]; rfl
   have z3 : w9.cell? ⟨w.heap.size, 3, none⟩ = some (.int .i64 0) := by rw [cell_of_row _ _ 3 _ _ _ hrow]; rfl
   have z4 : w9.cell? ⟨w.heap.size, 4, none⟩ = some (.int .i64 0) := by rw [cell_of_row _ _ 4 _ _ _ hrow]; rfl
   have z5 : w9.cell? ⟨w.heap.size, 5, none⟩ = some (.string ⟨#[]⟩) := by rw [cell_of_row _ _ 5 _ _ _ hrow]; rfl
   have z6 : w9.cell? ⟨w.heap.size, 6, none⟩ = some (.slice none 0 0) := by rw [cell_of_row _ _ 6 _ _ _ hrow]; rfl
   have fz : ∀ i, w9.frozen? ⟨w.heap.size, i, none⟩ = false := fun i => frozen_of_row _ _ i _ _ hrow
   go_wp2_with fail
   have hR2 := (setCell_row 6 (.slice none 0 0) (setCell_row 5 (.string ⟨#[]⟩) (setCell_row 4 (.int .i64 0) (setCell_row 3 (.int .i64 0) (setCell_row 2 (.int .i64 0) (setCell_row 1 (.bool false) (setCell_row 0 (.int .i64 0) hrow)))))))
   simp only [List.setIfInBounds_toArray, List.set_cons_zero, List.set_cons_succ] at hR2
   have hf8 : Fr (fun q => q = w.heap.size) w9 (((((((w9.setCell ⟨w.heap.size, 0, none⟩ (.int .i64 0)).setCell ⟨w.heap.size, 1, none⟩ (.bool false)).setCell ⟨w.heap.size, 2, none⟩ (.int .i64 0)).setCell ⟨w.heap.size, 3, none⟩ (.int .i64 0)).setCell ⟨w.heap.size, 4, none⟩ (.int .i64 0)).setCell ⟨w.heap.size, 5, none⟩ (.string ⟨#[]⟩)).setCell ⟨w.heap.size, 6, none⟩ (.slice none 0 0)) := ((((((((Fr.refl (fun q => q = w.heap.size) w9).setCell (p := ⟨w.heap.size, 0, none⟩) (.inl rfl) (.int .i64 0)).setCell (p := ⟨w.heap.size, 1, none⟩) (.inl rfl) (.bool false)).setCell (p := ⟨w.heap.size, 2, none⟩) (.inl rfl) (.int .i64 0)).setCell (p := ⟨w.heap.size, 3, none⟩) (.inl rfl) (.int .i64 0)).setCell (p := ⟨w.heap.size, 4, none⟩) (.inl rfl) (.int .i64 0)).setCell (p := ⟨w.heap.size, 5, none⟩) (.inl rfl) (.string ⟨#[]⟩)).setCell (p := ⟨w.heap.size, 6, none⟩) (.inl rfl) (.slice none 0 0))
   refine bodyPost_ret (results_cell_row rfl _ _ (w.heap.size) _ _ _ _ rfl hR2 Tryz.underlying46 rfl (by kernel_rfl)) rfl ?_
   exact ⟨by rw [HQ0.out]; rfl, (HF9.out).trans hf8 (fun _ _ => id) (fun q hq e => by omega)⟩
end
section
open Go.RowKit
mutual
def V.few : V → Nat → Nat → Option Nat
 | .mk _ _ s l, left, deep => if left < 1 + s.size / 16 ∨ 60 < deep then none else fewL l (left - (1 + s.size / 16)) (deep + 1)
def fewL : List V → Nat → Nat → Option Nat
 | [], left, _ => some left
 | x :: r, left, deep => match V.few x left deep with
  | none => none
  | some n => fewL r n deep
end
theorem V.few_eq (x : V) (left deep : Nat) : x.few left deep = if left < 1 + x.s.size / 16 ∨ 60 < deep then none else fewL x.l (left - (1 + x.s.size / 16)) (deep + 1) := by
 cases x; simp only [V.few, V.s, V.l]; rfl
theorem fewL_drop (l : List V) (k left deep : Nat) (x : V) (h : l[k]? = some x) : fewL (l.drop k) left deep = match x.few left deep with
  | none => none
  | some n => fewL (l.drop (k + 1)) n deep := by
 have hk := (List.getElem?_eq_some_iff.1 h).1
 rw [List.drop_eq_getElem_cons hk]
 have : l[k] = x := (List.getElem?_eq_some_iff.1 h).2
 rw [this, fewL]
mutual
theorem V.few_le : ∀ (x : V) (left deep n : Nat), x.few left deep = some n → n ≤ left
 | .mk k n s l, left, deep, m, h => by
  simp only [V.few] at h
  split at h
  ·cases h
  ·have := fewL_le l _ _ _ h
   omega
theorem fewL_le : ∀ (l : List V) (left deep n : Nat), fewL l left deep = some n → n ≤ left
 | [], left, deep, n, h => by simp [fewL] at h; omega
 | x :: r, left, deep, n, h => by
  simp only [fewL] at h
  split at h
  ·cases h
  ·rename_i m hm
   have h1 := V.few_le x left deep m hm
   have h2 := fewL_le r m deep n h
   omega
end
def fewI : Option Nat → Int
 | none => -1
 | some n => n
set_option maxHeartbeats 1600000 in
theorem few_any : ∀ (N : Nat) (x : V), x.size ≤ N → ∀ (D : Nat → Prop) (w : World) (u : Array Value) (left deep : Nat), VIn D w x u → x.size ≤ 1099511627776 → left ≤ 1099511627776 → deep ≤ 61 →
  Calls Tryz.prog 68 #[.agg u, .int .i64 left, .int .i64 deep] w fun e w' => e = .returned (.int .i64 (fewI (x.few left deep))) ∧ Fr (fun _ => False) w w' := by
 intro N
 induction N with
 | zero =>
  intro x h
  rw [V.size_eq] at h
  omega
 | succ N ih =>
  intro x hN D w u left deep h hM hz hd
  have hs := V.size_eq x
  rw [V.few_eq]
  obtain ⟨v, rfl, a, cap, us, rfl, hc, hm, hn, hb, hi⟩ := h.open
  have hlm : x.l.length ≤ 9223372036854775807 := Nat.le_trans hc hm
  have hsm : x.s.size ≤ 1099511627776 := by omega
  generalize x.k = kk at *
  generalize x.n = nn at *
  generalize x.s = ss at *
  generalize x.l = l at *
  obtain ⟨r, hr⟩ : ∃ r, r = fewI (if left < 1 + ss.size / 16 ∨ 60 < deep then none else fewL l (left - (1 + ss.size / 16)) (deep + 1)) := ⟨_, rfl⟩
  rw [← hr]
  have hF : Fr (fun _ => False) w (w.alloc (.cells #[.int .i64 kk, .int .i64 nn, .string ss, .slice a l.length cap] 44)) := (Fr.refl _ _).alloc _
  have hb1 : (w.alloc (.cells #[.int .i64 kk, .int .i64 nn, .string ss, .slice a l.length cap] 44)).heap[w.heap.size]? = some (.cells #[.int .i64 kk, .int .i64 nn, .string ss, .slice a l.length cap] 44) := heap_alloc_new w _
  have d2 : (w.alloc (.cells #[.int .i64 kk, .int .i64 nn, .string ss, .slice a l.length cap] 44)).cell? ⟨w.heap.size, 2, none⟩ = some (.string ss) := by rw [cell_of_row _ _ 2 _ _ _ hb1]; rfl
  have d3 : (w.alloc (.cells #[.int .i64 kk, .int .i64 nn, .string ss, .slice a l.length cap] 44)).cell? ⟨w.heap.size, 3, none⟩ = some (.slice a l.length cap) := by rw [cell_of_row _ _ 3 _ _ _ hb1]; rfl
  have HB := hid hb; have HI := hid hi; have HS := hid hs; have HM := hid hM; have HN := hid hN; have HF := hid hF; have HR := hid hr; have HIH := hid ih; have HD3 := hid d3
  clear hb hi hs hM hN h hn hF hb1 hr ih
  by_cases h1 : (left : Int) - 1 - (ss.size : Int) / 16 < 0
  ·have hr : r = -1 := by rw [HR.out, if_pos (by omega)]; rfl
   subst hr
   go_enter Tryz.func68, Tryz.ntmps68
   go_wp2
   go_ret
   exact ⟨rfl, HF.out⟩
  by_cases h2 : (60 : Int) < deep
  ·have hr : r = -1 := by rw [HR.out, if_pos (by omega)]; rfl
   subst hr
   go_enter Tryz.func68, Tryz.ntmps68
   go_wp2
   go_ret
   exact ⟨rfl, HF.out⟩
  have hr : r = fewI (fewL l (left - (1 + ss.size / 16)) (deep + 1)) := by rw [HR.out, if_neg (by omega)]
  obtain ⟨z, hz1, hz2⟩ : ∃ z : Nat, (left : Int) - 1 - (ss.size : Int) / 16 = z ∧ z = left - (1 + ss.size / 16) := ⟨left - (1 + ss.size / 16), by omega, rfl⟩
  rw [← hz2] at hr
  have hzl : z ≤ left := by omega
  have HR' := hid hr; have HZ := hid hz1
  clear HR hr hz2 hz1
  go_enter Tryz.func68, Tryz.ntmps68
  go_upto_region 5 with fail
  rw [HZ.out]
  generalize hW1 : w.alloc (.cells #[.int .i64 kk, .int .i64 nn, .string ss, .slice a l.length cap] 44) = W1 at *
  clear hW1 d2
  go_loopw [1, 7] (fun lv i wr => ∃ k zk : Nat, k ≤ l.length ∧ i = .int .i64 k ∧ lv = .int .i64 zk ∧ zk ≤ z ∧ fewL l z (deep + 1) = fewL (l.drop k) zk (deep + 1) ∧ Fr (fun _ => False) W1 wr) (fun _ i _ => l.length - (intOf i).toNat)
  case atStart => exact ⟨0, z, Nat.zero_le _, rfl, rfl, Nat.le_refl _, rfl, Fr.refl _ _⟩
  case round =>
   obtain ⟨k, zk, hk, rfl, rfl, hzk, heq, hf⟩ := hrel
   have d3 := hf.cell HD3.out not_false
   by_cases hlt : k < l.length
   ·obtain ⟨b, o, y, a', c', rfl, -, hy, hv, e0, e1, e2, e3⟩ := VL.elem HB.out HI.out k hlt
    have hf0 := HF.out.trans' hf
    replace e0 := hf0.cell e0 not_false
    replace e1 := hf0.cell e1 not_false
    replace e2 := hf0.cell e2 not_false
    replace e3 := hf0.cell e3 not_false
    have hv2 := hv.frame hf0 (fun _ _ => not_false)
    have t2 := sizeL_mem hy
    have hy1 : y.size ≤ N := by have := HS.out; have := HN.out; omega
    have hod := fewL_drop l k zk (deep + 1) y hy
    have hole := fun n => y.few_le zk (deep + 1) n
    have hc := HIH.out y hy1 D wr _ zk (deep + 1) hv2 (by have := HM.out; have := HS.out; omega) (by omega) (by omega)
    rw [hod] at heq
    have HE := hid heq; have HFr := hid hf; have HC := hid hc; have HL := hid hole
    clear hv t2 hf hf0 hv2 hc hy1 hod heq hole hy
    generalize y.few zk (deep + 1) = ry at *
    go_wp2_with fail
    refine HC.out.mono ?_
    rintro e w2 ⟨rfl, hf2⟩
    have HF2 := hid (HFr.out.trans' hf2)
    clear hf2
    cases ry with
    | none =>
     have hrr : r = -1 := by rw [HR'.out, HE.out]; rfl
     subst hrr
     simp only [fewI]
     go_wp2
     go_ret
     exact ⟨rfl, HF.out.trans' HF2.out⟩
    | some n =>
     have hnz := HL.out n rfl
     have hE2 := hid (show fewL l z (deep + 1) = fewL (l.drop (k + 1)) n (deep + 1) from HE.out)
     simp only [fewI]
     go_wp2
     go_roundw
     case rel => exact ⟨k + 1, n, by omega, by go_num, rfl, by omega, hE2.out, HF2.out⟩
     case measure => simp [intOf]; omega
   ·go_wp2
    go_ret
    have hrr := HR'.out
    rw [heq, List.drop_of_length_le (by omega), fewL] at hrr
    rw [hrr]
    exact ⟨rfl, HF.out.trans' hf⟩
end
end Go.Proofs.YtbegahbagnflnaaGreatDoor
