/- tree.Same: two programs are the same but for lines, or not. -/
import Derived.Test.YteihmagldhmjgaaDoorTreeF
import Derived.Test.YteihmagldhmjgaaDoorValSameX
namespace Go.Proofs.YteihmagldhmjgaaDoor
open Go.RowKit

mutual
/-- Without lines. -/
def Nd.strip : Nd → Nd
  | .mk op _ s v l => .mk op 0 s v (stripL l)
def stripL : List Nd → List Nd
  | [] => []
  | x :: r => Nd.strip x :: stripL r
end
theorem stripL_map : ∀ l : List Nd, stripL l = l.map Nd.strip
  | [] => by rw [stripL]; rfl
  | x :: r => by rw [stripL, stripL_map r]; rfl
theorem Nd.strip_eq (x : Nd) : x.strip = .mk x.op 0 x.s x.v (stripL x.l) := by cases x; rw [Nd.strip]; rfl
noncomputable def sameN (x y : Nd) : Bool := @decide (x.strip = y.strip) (Classical.propDecidable _)
noncomputable def sameL (a b : List Nd) : Bool := @decide (stripL a = stripL b) (Classical.propDecidable _)
theorem sameN_eq {x y : Nd} : sameN x y = true ↔ x.strip = y.strip := by unfold sameN; exact @decide_eq_true_iff _ (Classical.propDecidable _)
theorem sameL_eq {a b : List Nd} : sameL a b = true ↔ stripL a = stripL b := by unfold sameL; exact @decide_eq_true_iff _ (Classical.propDecidable _)
theorem sameN_ne {x y : Nd} (h : x.strip ≠ y.strip) : sameN x y = false := Bool.eq_false_iff.2 fun e => h (sameN_eq.1 e)
theorem sameL_ne {a b : List Nd} (h : stripL a ≠ stripL b) : sameL a b = false := Bool.eq_false_iff.2 fun e => h (sameL_eq.1 e)
theorem stripL_length (a : List Nd) : (stripL a).length = a.length := by rw [stripL_map]; simp
/-- The contract of Same up to a size. -/
def SameTo (N : Nat) : Prop := ∀ (a b : List Nd), szL a < N → ∀ (D E : Nat → Prop) (w : World) (v v' : Value), NL D w a v → NL E w b v' →
    Calls Tryd.prog 28 #[v, v'] w fun e w' => e = .returned (.bool (sameL a b)) ∧ Fr (fun _ => False) w w'
set_option maxRecDepth 100000 in
set_option maxHeartbeats 1000000 in
theorem same1_of (N : Nat) (ih : SameTo N) (x y : Nd) (hx : x.sz < N + 1) (D E : Nat → Prop) (w : World) (u u' : Array Value) (h : NIn D w x u) (h' : NIn E w y u') :
    Calls Tryd.prog 49 #[.agg u, .agg u'] w fun e w' => e = .returned (.bool (sameN x y)) ∧ Fr (fun _ => False) w w' := by
  have hs := Nd.sz_eq x
  obtain ⟨va', la', rfl, hvx, hlx⟩ := h.open
  obtain ⟨vb', lb', rfl, hvy, hly⟩ := h'.open
  have HLX := hid hlx; have HLY := hid hly
  have hclose : ∀ {D : Nat → Prop} {z : Nd} {q : Value}, VL D w z.v.l q → VIn D w z.v #[.int .i64 z.v.k, .int .i64 z.v.n, .string z.v.s, q] := fun {D z q} h => by
    have := h.close z.v.k z.v.n z.v.s
    have e : z.v = .mk z.v.k z.v.n z.v.s z.v.l := by cases z.v; rfl
    rw [← e] at this; exact this
  have hvxi := hclose hvx
  have hvyi := hclose hvy
  obtain ⟨va, vc, us1, rfl, -⟩ := hvx
  obtain ⟨la, lc, us2, rfl, -⟩ := hlx
  obtain ⟨vb, vd, us3, rfl, -⟩ := hvy
  obtain ⟨lb, ld, us4, rfl, -⟩ := hly
  have HVS := hid (fun (w2 : World) (hf : Fr (fun _ => False) w w2) => vsame_any x.v.size x.v y.v (Nat.le_refl _) D E w2 _ _ (hvxi.frame hf fun _ _ => not_false) (hvyi.frame hf fun _ _ => not_false))
  have HSL := hid (fun (w2 : World) (hf : Fr (fun _ => False) w w2) => ih x.l y.l (by omega) D E w2 _ _ (HLX.out.frame hf fun _ _ => not_false) (HLY.out.frame hf fun _ _ => not_false))
  have hres : sameN x y = ((x.op == y.op) && ((x.s.toList == y.s.toList) && (V.same x.v y.v && sameL x.l y.l))) := by
    rw [Bool.eq_iff_iff, sameN_eq, Nd.strip_eq, Nd.strip_eq y]
    simp only [Bool.and_eq_true, beq_iff_eq, V.same_eq, sameL_eq, Nd.mk.injEq]
    constructor
    · rintro ⟨h1, -, h2, h3, h4⟩
      exact ⟨h1, by rw [h2], h3, h4⟩
    · rintro ⟨h1, h2, h3, h4⟩
      exact ⟨h1, trivial, ba_toList_inj h2, h3, h4⟩
  have HR := hid hres
  have hf0 := ((Fr.refl (fun _ => False) w).alloc (.cells #[.int .i64 x.op, .int .i64 x.ln, .string x.s, .int .i64 x.v.k, .int .i64 x.v.n, .string x.v.s, .slice va x.v.l.length vc, .slice la x.l.length lc] 29)).alloc (.cells #[.int .i64 y.op, .int .i64 y.ln, .string y.s, .int .i64 y.v.k, .int .i64 y.v.n, .string y.v.s, .slice vb y.v.l.length vd, .slice lb y.l.length ld] 29)
  have hx0 := ((Fr.refl (fun _ => False) (w.alloc (.cells #[.int .i64 x.op, .int .i64 x.ln, .string x.s, .int .i64 x.v.k, .int .i64 x.v.n, .string x.v.s, .slice va x.v.l.length vc, .slice la x.l.length lc] 29))).alloc (.cells #[.int .i64 y.op, .int .i64 y.ln, .string y.s, .int .i64 y.v.k, .int .i64 y.v.n, .string y.v.s, .slice vb y.v.l.length vd, .slice lb y.l.length ld] 29)).heap (heap_alloc_new w (.cells #[.int .i64 x.op, .int .i64 x.ln, .string x.s, .int .i64 x.v.k, .int .i64 x.v.n, .string x.v.s, .slice va x.v.l.length vc, .slice la x.l.length lc] 29)) not_false
  have hy0 := heap_alloc_new (w.alloc (.cells #[.int .i64 x.op, .int .i64 x.ln, .string x.s, .int .i64 x.v.k, .int .i64 x.v.n, .string x.v.s, .slice va x.v.l.length vc, .slice la x.l.length lc] 29)) (.cells #[.int .i64 y.op, .int .i64 y.ln, .string y.s, .int .i64 y.v.k, .int .i64 y.v.n, .string y.v.s, .slice vb y.v.l.length vd, .slice lb y.l.length ld] 29)
  rw [show (w.alloc (.cells #[.int .i64 x.op, .int .i64 x.ln, .string x.s, .int .i64 x.v.k, .int .i64 x.v.n, .string x.v.s, .slice va x.v.l.length vc, .slice la x.l.length lc] 29)).heap.size = w.heap.size + 1 by simp] at hy0
  have HF0 := hid hf0; have HX0 := hid hx0; have HY0 := hid hy0
  clear h h' hvxi hvyi hres hf0 hx0 hy0 hclose ih hs hx
  generalize sameN x y = r at *
  generalize V.same x.v y.v = vs at *
  generalize sameL x.l y.l = ls at *
  go_enter Tryd.func49, Tryd.ntmps49
  go_upto_region 1 with fail
  generalize hW : (w.alloc (.cells #[.int .i64 x.op, .int .i64 x.ln, .string x.s, .int .i64 x.v.k, .int .i64 x.v.n, .string x.v.s, .slice va x.v.l.length vc, .slice la x.l.length lc] 29)).alloc (.cells #[.int .i64 y.op, .int .i64 y.ln, .string y.s, .int .i64 y.v.k, .int .i64 y.v.n, .string y.v.s, .slice vb y.v.l.length vd, .slice lb y.l.length ld] 29) = W at *
  clear hW
  have d0 : W.cell? ⟨w.heap.size, 0, none⟩ = some (.int .i64 x.op) := by rw [cell_of_row _ _ 0 _ _ _ HX0.out]; rfl
  have d1 : W.cell? ⟨w.heap.size, 1, none⟩ = some (.int .i64 x.ln) := by rw [cell_of_row _ _ 1 _ _ _ HX0.out]; rfl
  have d2 : W.cell? ⟨w.heap.size, 2, none⟩ = some (.string x.s) := by rw [cell_of_row _ _ 2 _ _ _ HX0.out]; rfl
  have d3 : W.cell? ⟨w.heap.size, 3, none⟩ = some (.int .i64 x.v.k) := by rw [cell_of_row _ _ 3 _ _ _ HX0.out]; rfl
  have d4 : W.cell? ⟨w.heap.size, 4, none⟩ = some (.int .i64 x.v.n) := by rw [cell_of_row _ _ 4 _ _ _ HX0.out]; rfl
  have d5 : W.cell? ⟨w.heap.size, 5, none⟩ = some (.string x.v.s) := by rw [cell_of_row _ _ 5 _ _ _ HX0.out]; rfl
  have d6 : W.cell? ⟨w.heap.size, 6, none⟩ = some (.slice va x.v.l.length vc) := by rw [cell_of_row _ _ 6 _ _ _ HX0.out]; rfl
  have d7 : W.cell? ⟨w.heap.size, 7, none⟩ = some (.slice la x.l.length lc) := by rw [cell_of_row _ _ 7 _ _ _ HX0.out]; rfl
  have g0 : W.cell? ⟨(w.heap.size + 1), 0, none⟩ = some (.int .i64 y.op) := by rw [cell_of_row _ _ 0 _ _ _ HY0.out]; rfl
  have g1 : W.cell? ⟨(w.heap.size + 1), 1, none⟩ = some (.int .i64 y.ln) := by rw [cell_of_row _ _ 1 _ _ _ HY0.out]; rfl
  have g2 : W.cell? ⟨(w.heap.size + 1), 2, none⟩ = some (.string y.s) := by rw [cell_of_row _ _ 2 _ _ _ HY0.out]; rfl
  have g3 : W.cell? ⟨(w.heap.size + 1), 3, none⟩ = some (.int .i64 y.v.k) := by rw [cell_of_row _ _ 3 _ _ _ HY0.out]; rfl
  have g4 : W.cell? ⟨(w.heap.size + 1), 4, none⟩ = some (.int .i64 y.v.n) := by rw [cell_of_row _ _ 4 _ _ _ HY0.out]; rfl
  have g5 : W.cell? ⟨(w.heap.size + 1), 5, none⟩ = some (.string y.v.s) := by rw [cell_of_row _ _ 5 _ _ _ HY0.out]; rfl
  have g6 : W.cell? ⟨(w.heap.size + 1), 6, none⟩ = some (.slice vb y.v.l.length vd) := by rw [cell_of_row _ _ 6 _ _ _ HY0.out]; rfl
  have g7 : W.cell? ⟨(w.heap.size + 1), 7, none⟩ = some (.slice lb y.l.length ld) := by rw [cell_of_row _ _ 7 _ _ _ HY0.out]; rfl
  cases q1 : (x.op == y.op)
  · have HX := hid (show r = false by rw [HR.out, q1]; rfl)
    go_wp2_with fail
    go_ret
    exact ⟨ret_bool HX.out.symm, HF0.out⟩
  cases q2 : (x.s.toList == y.s.toList)
  · have HX := hid (show r = false by rw [HR.out, q1, q2]; rfl)
    go_wp2_with fail
    go_ret
    exact ⟨ret_bool HX.out.symm, HF0.out⟩
  go_wp2_with fail
  refine (HVS.out W HF0.out).mono ?_
  rintro e w2 ⟨rfl, hf2⟩
  have HF2 := hid (HF0.out.trans' hf2)
  replace d7 := hf2.cell d7 not_false
  replace g7 := hf2.cell g7 not_false
  clear hf2
  cases vs
  · have HX := hid (show r = false by rw [HR.out, q1, q2]; rfl)
    go_wp2_with fail
    go_ret
    exact ⟨ret_bool HX.out.symm, HF2.out⟩
  have HX := hid (show r = ls by rw [HR.out, q1, q2]; rfl)
  go_wp2_with fail
  refine (HSL.out w2 HF2.out).mono ?_
  rintro e w3 ⟨rfl, hf3⟩
  have HF3 := hid (HF2.out.trans' hf3)
  clear hf3
  go_wp2_with fail
  go_ret
  exact ⟨ret_bool HX.out.symm, HF3.out⟩
set_option maxRecDepth 100000 in
set_option maxHeartbeats 1000000 in
theorem equalfunc_of (N : Nat) (ih : SameTo N) (a b : List Nd) (ha : szL a < N + 1) (D E : Nat → Prop) (w : World) (v v' : Value) (h : NL D w a v) (h' : NL E w b v') :
    Calls Tryd.prog 48 #[v, v', .func (.func 49) #[] #[]] w fun e w' => e = .returned (.bool (sameL a b)) ∧ Fr (fun _ => False) w w' := by
  obtain ⟨aa, ac, us, rfl, hc, hm, hn, hb, hi⟩ := h
  obtain ⟨ba, bc, vs, rfl, hc', hm', hn', hb', hi'⟩ := h'
  have hla : a.length ≤ 9223372036854775807 := Nat.le_trans hc hm
  have hlb : b.length ≤ 9223372036854775807 := Nat.le_trans hc' hm'
  by_cases hll : a.length = b.length
  rotate_left
  · have HX := hid (show sameL a b = false from sameL_ne fun e => hll (by have := congrArg List.length e; rwa [stripL_length, stripL_length] at this))
    have q4 : ((a.length : Int) != (b.length : Int)) = true := by simp; omega
    generalize sameL a b = r at *
    clear hb hi hb' hi' hn hn' hll
    go_enter Tryd.func48, Tryd.ntmps48
    go_wp2
    go_ret
    exact ⟨ret_bool HX.out.symm, Fr.refl _ _⟩
  have q4 : ((a.length : Int) != (b.length : Int)) = false := by simp; omega
  have HLL := hid hll
  obtain ⟨r, hr⟩ : ∃ r, sameL a b = r := ⟨_, rfl⟩
  rw [hr]
  have HR := hid hr
  have HB := hid hb; have HI := hid hi; have HB' := hid hb'; have HI' := hid hi'; have HIH := hid ih; have HA := hid ha
  clear hb hi hb' hi' hn hn' hll hr hc hm hc' hm' ih ha
  go_enter Tryd.func48, Tryd.ntmps48
  go_wp2_with fail
  go_loopw [17] (fun i wr => ∃ k : Nat, k ≤ a.length ∧ i = .int .i64 k ∧ Hid (stripL (a.take k) = stripL (b.take k)) ∧ Fr (fun _ => False) w wr) (fun i _ => a.length - (intOf i).toNat)
  case atStart => exact ⟨0, Nat.zero_le _, rfl, hid (by simp), Fr.refl _ _⟩
  case round =>
    obtain ⟨k, hk, rfl, HT, hf⟩ := hrel
    by_cases hlt : k < a.length
    · have hlt' : (k : Int) < a.length := by omega
      have hltb : k < b.length := by have := HLL.out; omega
      have hltb' : (k : Int) < b.length := by omega
      obtain ⟨pb, po, p, pv, p1, pl, p2, rfl, -, hp, hpv, e0, e1, e2, e3, e4, e5, e6, e7⟩ := NL.elem HB.out HI.out k hlt
      obtain ⟨qb, qo, q, qv, q1, ql, q2, rfl, -, hq, hqv, f0, f1, f2, f3, f4, f5, f6, f7⟩ := NL.elem HB'.out HI'.out k hltb
      have hps := szL_mem hp
      replace e0 := hf.cell e0 not_false
      replace e1 := hf.cell e1 not_false
      replace e2 := hf.cell e2 not_false
      replace e3 := hf.cell e3 not_false
      replace e4 := hf.cell e4 not_false
      replace e5 := hf.cell e5 not_false
      replace e6 := hf.cell e6 not_false
      replace e7 := hf.cell e7 not_false
      replace f0 := hf.cell f0 not_false
      replace f1 := hf.cell f1 not_false
      replace f2 := hf.cell f2 not_false
      replace f3 := hf.cell f3 not_false
      replace f4 := hf.cell f4 not_false
      replace f5 := hf.cell f5 not_false
      replace f6 := hf.cell f6 not_false
      replace f7 := hf.cell f7 not_false
      have hfa := (hf.alloc (.cells #[.int .i64 p.op, .int .i64 p.ln, .string p.s, .int .i64 p.v.k, .int .i64 p.v.n, .string p.v.s, .slice pv p.v.l.length p1, .slice pl p.l.length p2] 29)).alloc (.cells #[.int .i64 q.op, .int .i64 q.ln, .string q.s, .int .i64 q.v.k, .int .i64 q.v.n, .string q.v.s, .slice qv q.v.l.length q1, .slice ql q.l.length q2] 29)
      have HS1 := hid (same1_of N HIH.out p q (by have := HA.out; omega) D E _ _ _ (hpv.frame hfa fun _ _ => not_false) (hqv.frame hfa fun _ _ => not_false))
      have HG1 := hid (((Fr.refl (fun _ => False) (wr.alloc (.cells #[.int .i64 p.op, .int .i64 p.ln, .string p.s, .int .i64 p.v.k, .int .i64 p.v.n, .string p.v.s, .slice pv p.v.l.length p1, .slice pl p.l.length p2] 29))).alloc (.cells #[.int .i64 q.op, .int .i64 q.ln, .string q.s, .int .i64 q.v.k, .int .i64 q.v.n, .string q.v.s, .slice qv q.v.l.length q1, .slice ql q.l.length q2] 29)).heap (heap_alloc_new wr (.cells #[.int .i64 p.op, .int .i64 p.ln, .string p.s, .int .i64 p.v.k, .int .i64 p.v.n, .string p.v.s, .slice pv p.v.l.length p1, .slice pl p.l.length p2] 29)) not_false)
      have hg2 := heap_alloc_new (wr.alloc (.cells #[.int .i64 p.op, .int .i64 p.ln, .string p.s, .int .i64 p.v.k, .int .i64 p.v.n, .string p.v.s, .slice pv p.v.l.length p1, .slice pl p.l.length p2] 29)) (.cells #[.int .i64 q.op, .int .i64 q.ln, .string q.s, .int .i64 q.v.k, .int .i64 q.v.n, .string q.v.s, .slice qv q.v.l.length q1, .slice ql q.l.length q2] 29)
      rw [show (wr.alloc (.cells #[.int .i64 p.op, .int .i64 p.ln, .string p.s, .int .i64 p.v.k, .int .i64 p.v.n, .string p.v.s, .slice pv p.v.l.length p1, .slice pl p.l.length p2] 29)).heap.size = wr.heap.size + 1 by simp] at hg2
      have HG2 := hid hg2
      have HFA := hid hfa
      have hfp := (Fr.refl (fun _ => False) wr).alloc (.cells #[.int .i64 p.op, .int .i64 p.ln, .string p.s, .int .i64 p.v.k, .int .i64 p.v.n, .string p.v.s, .slice pv p.v.l.length p1, .slice pl p.l.length p2] 29)
      have j0 := hfp.cell f0 not_false
      have j1 := hfp.cell f1 not_false
      have j2 := hfp.cell f2 not_false
      have j3 := hfp.cell f3 not_false
      have j4 := hfp.cell f4 not_false
      have j5 := hfp.cell f5 not_false
      have j6 := hfp.cell f6 not_false
      have j7 := hfp.cell f7 not_false
      have HST := hid (show ∀ c : Bool, sameN p q = c → (c = true → stripL (a.take (k + 1)) = stripL (b.take (k + 1))) ∧ (c = false → r = false) from fun c hc => by
        constructor
        · intro h
          rw [h, sameN_eq] at hc
          have h1 := HT.out
          rw [stripL_map, stripL_map] at h1 ⊢
          rw [List.take_add_one, List.take_add_one, hp, hq]
          simp only [List.map_append, Option.toList, List.map_cons, List.map_nil]
          rw [h1, hc]
        · intro h
          rw [← HR.out]
          refine sameL_ne fun e => ?_
          rw [stripL_map, stripL_map] at e
          have h1 := congrArg (fun z => z[k]?) e
          simp only [List.getElem?_map, hp, hq, Option.map_some, Option.some.injEq] at h1
          rw [sameN_eq.2 h1] at hc
          rw [h] at hc
          cases hc)
      obtain ⟨sc, hsc⟩ : ∃ c, sameN p q = c := ⟨_, rfl⟩
      rw [hsc] at HS1
      have HST2 := hid (HST.out sc hsc)
      clear hpv hqv hps hfa hg2 hfp HST hsc hf hp hq
      go_upto_region 7 with fail
      generalize hW : (wr.alloc (.cells #[.int .i64 p.op, .int .i64 p.ln, .string p.s, .int .i64 p.v.k, .int .i64 p.v.n, .string p.v.s, .slice pv p.v.l.length p1, .slice pl p.l.length p2] 29)).alloc (.cells #[.int .i64 q.op, .int .i64 q.ln, .string q.s, .int .i64 q.v.k, .int .i64 q.v.n, .string q.v.s, .slice qv q.v.l.length q1, .slice ql q.l.length q2] 29) = W at *
      clear hW e0 f0 j0 e1 f1 j1 e2 f2 j2 e3 f3 j3 e4 f4 j4 e5 f5 j5 e6 f6 j6 e7 f7 j7
      obtain ⟨B1, hB1⟩ : ∃ B, wr.heap.size = B := ⟨_, rfl⟩
      rw [hB1] at HG1 HG2 ⊢
      clear hB1
      have d0 : W.cell? ⟨B1, 0, none⟩ = some (.int .i64 p.op) := by rw [cell_of_row _ _ 0 _ _ _ HG1.out]; rfl
      have d1 : W.cell? ⟨B1, 1, none⟩ = some (.int .i64 p.ln) := by rw [cell_of_row _ _ 1 _ _ _ HG1.out]; rfl
      have d2 : W.cell? ⟨B1, 2, none⟩ = some (.string p.s) := by rw [cell_of_row _ _ 2 _ _ _ HG1.out]; rfl
      have d3 : W.cell? ⟨B1, 3, none⟩ = some (.int .i64 p.v.k) := by rw [cell_of_row _ _ 3 _ _ _ HG1.out]; rfl
      have d4 : W.cell? ⟨B1, 4, none⟩ = some (.int .i64 p.v.n) := by rw [cell_of_row _ _ 4 _ _ _ HG1.out]; rfl
      have d5 : W.cell? ⟨B1, 5, none⟩ = some (.string p.v.s) := by rw [cell_of_row _ _ 5 _ _ _ HG1.out]; rfl
      have d6 : W.cell? ⟨B1, 6, none⟩ = some (.slice pv p.v.l.length p1) := by rw [cell_of_row _ _ 6 _ _ _ HG1.out]; rfl
      have d7 : W.cell? ⟨B1, 7, none⟩ = some (.slice pl p.l.length p2) := by rw [cell_of_row _ _ 7 _ _ _ HG1.out]; rfl
      have g0 : W.cell? ⟨(B1 + 1), 0, none⟩ = some (.int .i64 q.op) := by rw [cell_of_row _ _ 0 _ _ _ HG2.out]; rfl
      have g1 : W.cell? ⟨(B1 + 1), 1, none⟩ = some (.int .i64 q.ln) := by rw [cell_of_row _ _ 1 _ _ _ HG2.out]; rfl
      have g2 : W.cell? ⟨(B1 + 1), 2, none⟩ = some (.string q.s) := by rw [cell_of_row _ _ 2 _ _ _ HG2.out]; rfl
      have g3 : W.cell? ⟨(B1 + 1), 3, none⟩ = some (.int .i64 q.v.k) := by rw [cell_of_row _ _ 3 _ _ _ HG2.out]; rfl
      have g4 : W.cell? ⟨(B1 + 1), 4, none⟩ = some (.int .i64 q.v.n) := by rw [cell_of_row _ _ 4 _ _ _ HG2.out]; rfl
      have g5 : W.cell? ⟨(B1 + 1), 5, none⟩ = some (.string q.v.s) := by rw [cell_of_row _ _ 5 _ _ _ HG2.out]; rfl
      have g6 : W.cell? ⟨(B1 + 1), 6, none⟩ = some (.slice qv q.v.l.length q1) := by rw [cell_of_row _ _ 6 _ _ _ HG2.out]; rfl
      have g7 : W.cell? ⟨(B1 + 1), 7, none⟩ = some (.slice ql q.l.length q2) := by rw [cell_of_row _ _ 7 _ _ _ HG2.out]; rfl
      go_wp2_with fail
      refine HS1.out.mono ?_
      rintro e w2 ⟨rfl, hf2⟩
      have HF2 := hid (HFA.out.trans' hf2)
      clear hf2 d0 g0 d1 g1 d2 g2 d3 g3 d4 g4 d5 g5 d6 g6 d7 g7
      cases sc
      · have HX := hid (HST2.out.2 rfl)
        go_wp2_with fail
        go_ret
        exact ⟨ret_bool HX.out.symm, HF2.out⟩
      · have HX := hid (HST2.out.1 rfl)
        go_wp2_with fail
        go_roundw
        case rel => exact ⟨k + 1, by omega, by go_num, HX, HF2.out⟩
        case measure => simp [intOf]; omega
    · obtain rfl : k = a.length := by omega
      have HX := hid (show r = true by
        rw [← HR.out, sameL_eq]
        have h1 := HT.out
        rwa [List.take_length, List.take_of_length_le (by have := HLL.out; omega)] at h1)
      go_wp2_with fail
      go_ret
      exact ⟨ret_bool HX.out.symm, hf⟩
theorem same_of (N : Nat) (ih : SameTo N) : SameTo (N + 1) := by
  intro a b ha D E w v v' h h'
  have HC := hid (equalfunc_of N ih a b ha D E w v v' h h')
  obtain ⟨aa, ac, us, rfl, -⟩ := h
  obtain ⟨ba, bc, vs, rfl, -⟩ := h'
  generalize sameL a b = r at *
  clear ih ha
  go_enter Tryd.func28, Tryd.ntmps28
  go_wp2_with fail
  refine HC.out.mono ?_
  rintro e w2 ⟨rfl, hf2⟩
  go_wp2_with fail
  go_ret
  exact ⟨rfl, hf2⟩
theorem same_to : ∀ N, SameTo N
  | 0 => fun a b h => by omega
  | N + 1 => same_of N (same_to N)
theorem tsame_any (a b : List Nd) (D E : Nat → Prop) (w : World) (v v' : Value) (h : NL D w a v) (h' : NL E w b v') : Calls Tryd.prog 28 #[v, v'] w fun e w' => e = .returned (.bool (sameL a b)) ∧ Fr (fun _ => False) w w' :=
  same_to (szL a + 1) a b (by omega) D E w v v' h h'
end Go.Proofs.YteihmagldhmjgaaDoor
