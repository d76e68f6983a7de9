import Derived.Test.YtbegahbagnflnaaGreatDoorMn04
import Derived.Test.YtbegahbagnflnaaGreatDoorMn07
import Derived.Test.YtbegahbagnflnaaGreatDoorMn11
import Derived.Test.YtbegahbagnflnaaGreatDoorMn01
import Derived.Test.YtbegahbagnflnaaGreatDoorMn09
set_option linter.unusedSimpArgs false
set_option linter.unusedVariables false
set_option linter.unnecessarySimpa false
namespace Go.Proofs.YtbegahbagnflnaaGreatDoor
section
open Go.RowKit
end
section
open Go.RowKit
theorem VL.softL {B : Nat → Prop} {S : Nat → Prop} {w w' : World} {l : List V} {v : Value} (h : VL (fun b => B b ∧ Soft w b) w l v) (hf : Fr S w w') (hS : ∀ k, B k → ¬ S k) : VL (fun b => B b ∧ Soft w' b) w' l v := by
 have := ((h.close 0 0 ⟨#[]⟩).soft hf hS).open
 obtain ⟨v', e, h'⟩ := this
 simp at e
 obtain ⟨-, -, -, rfl⟩ := e
 exact h'
theorem Tryz.info_nd8 : (Tryz.prog.info? 75).map (fun i => (i.zero, i.size, i.bytes)) = some (some (.agg #[.int .i64 0, .int .i64 0, .string ⟨#[]⟩, .int .i64 0, .int .i64 0, .string ⟨#[]⟩, .slice none 0 0, .slice none 0 0]), 8, 112) := by kernel_rfl
end
section
open Go.RowKit
def NEl (base : Nat) (w : World) (l : List Nd) (v : Value) (xs : List Value) : Prop := ∀ i x, l[i]? = some x → ∃ u, NIn (fun b => base ≤ b ∧ b < w.heap.size ∧ v.ownBlock ≠ some b ∧ Soft w b) w x u ∧ u.size = 8 ∧ ∀ j, j < 8 → xs[i * 8 + j]? = u[j]?
theorem NEl.snoc {e base : Nat} {w w' : World} {l : List Nd} {v v' : Value} {xs : List Value} {x : Nd} {u : Array Value}
  (ho : w.ownsRow base e 8 v l.length xs) (hx : ∀ i x, l[i]? = some x → ∃ u, NIn (fun b => base ≤ b ∧ b < w.heap.size ∧ v.ownBlock ≠ some b ∧ Soft w b) w x u ∧ u.size = 8 ∧ ∀ j, j < 8 → xs[i * 8 + j]? = u[j]?)
  (ho' : w'.ownsRow base e 8 v' (l.length + 1) (xs ++ u.toList)) (hf : Fr (fun k => some k = v.ownBlock) w w') (hn : ∀ k, v'.ownBlock = some k → v.ownBlock = some k ∨ w.heap.size ≤ k)
  (hv : NIn (fun b => base ≤ b ∧ b < w.heap.size ∧ v.ownBlock ≠ some b ∧ Soft w b) w x u) (h4 : u.size = 8) : w'.ownsRow base e 8 v' (l ++ [x]).length (xs ++ u.toList) ∧ NEl base w' (l ++ [x]) v' (xs ++ u.toList) := by
 have hlen : xs.length = l.length * 8 := ho.1
 have key : ∀ {y : Nd} {c : Array Value}, NIn (fun b => base ≤ b ∧ b < w.heap.size ∧ v.ownBlock ≠ some b ∧ Soft w b) w y c → NIn (fun b => base ≤ b ∧ b < w'.heap.size ∧ v'.ownBlock ≠ some b ∧ Soft w' b) w' y c := fun h =>
  (h.frame hf fun k hk e => hk.2.2.1 e.symm).mono fun k _ hk => ⟨hk.1, Nat.lt_of_lt_of_le hk.2.1 hf.size, fun e => by
   rcases hn k e with h1 | h1
   ·exact hk.2.2.1 h1
   ·have := hk.2.1; omega, hf.soft hk.2.1 (fun e => hk.2.2.1 e.symm) hk.2.2.2⟩
 refine ⟨by simpa using ho', fun i y hi => ?_⟩
 by_cases hlt : i < l.length
 ·rw [List.getElem?_append_left hlt] at hi
  obtain ⟨c, hc, h4c, hj⟩ := hx i y hi
  refine ⟨c, key hc, h4c, fun j hj4 => ?_⟩
  rw [List.getElem?_append_left (by omega)]
  exact hj j hj4
 ·have hil := (List.getElem?_eq_some_iff.1 hi).1
  have : i = l.length := by simp at hil; omega
  subst this
  rw [List.getElem?_append_right (Nat.le_refl _)] at hi
  simp at hi
  subst hi
  refine ⟨u, key hv, h4, fun j hj4 => ?_⟩
  rw [List.getElem?_append_right (by omega)]
  simp [hlen]
theorem own_base' {w : World} {b b' e size n : Nat} {v : Value} {xs : List Value} (h : w.ownsRow b e size v n xs) (hb : b' ≤ b) : w.ownsRow b' e size v n xs := own_rebase h (fun k hk => Nat.le_trans hb (h.lt k hk).1)
def NOwnX (A : Nat → Prop) (base : Nat) (w : World) (l : List Nd) (v : Value) : Prop :=
 ∃ ys, w.ownsRow base 75 8 v l.length ys ∧ (∀ r, v.ownBlock = some r → A r) ∧ ∀ i x, l[i]? = some x → ∃ u, NIn (fun b => base ≤ b ∧ b < w.heap.size ∧ v.ownBlock ≠ some b ∧ A b ∧ Soft w b) w x u ∧ u.size = 8 ∧ ∀ j, j < 8 → ys[i * 8 + j]? = u[j]?
theorem NOwnX.frame {A S : Nat → Prop} {base : Nat} {w w' : World} {l : List Nd} {v : Value} (h : NOwnX A base w l v) (hf : Fr S w w') (hA : ∀ b, A b → ¬ S b) : NOwnX A base w' l v := by
 obtain ⟨ys, ho, hr, hx⟩ := h
 refine ⟨ys, hf.own ho (fun r h => hA r (hr r h)), hr, fun i x hi => ?_⟩
 obtain ⟨u, hv, r⟩ := hx i x hi
 exact ⟨u, (hv.frame hf fun k hk => hA k hk.2.2.2.1).mono fun k _ hk => ⟨hk.1, Nat.lt_of_lt_of_le hk.2.1 hf.size, hk.2.2.1, hk.2.2.2.1, hf.soft hk.2.1 (hA k hk.2.2.2.1) hk.2.2.2.2⟩, r⟩
theorem NOwnX.to {A B : Nat → Prop} {base base' : Nat} {w : World} {l : List Nd} {v : Value} (h : NOwnX A base w l v) (hb : base' ≤ base) (hA : ∀ b, base ≤ b → b < w.heap.size → A b → B b) : NOwnX B base' w l v := by
 obtain ⟨ys, ho, hr, hx⟩ := h
 refine ⟨ys, own_base' ho hb, fun r h => hA r (ho.lt r h).1 (ho.lt r h).2 (hr r h), fun i x hi => ?_⟩
 obtain ⟨u, hv, r⟩ := hx i x hi
 exact ⟨u, hv.mono fun k _ hk => ⟨Nat.le_trans hb hk.1, hk.2.1, hk.2.2.1, hA k hk.1 hk.2.1 hk.2.2.2.1, hk.2.2.2.2⟩, r⟩
def NodeAt (A : Nat → Prop) (base : Nat) (w : World) (x : Nd) (vv lv : Value) : Prop := NOwnX A base w x.l lv ∧ VL (fun b => base ≤ b ∧ A b ∧ lv.ownBlock ≠ some b) w x.v.l vv
theorem NodeAt.frame {A S : Nat → Prop} {base : Nat} {w w' : World} {x : Nd} {vv lv : Value} (h : NodeAt A base w x vv lv) (hf : Fr S w w') (hA : ∀ b, A b → ¬ S b) : NodeAt A base w' x vv lv := ⟨h.1.frame hf hA, h.2.frame hf fun k hk => hA k hk.2.1⟩
theorem NodeAt.to {A B : Nat → Prop} {base base' : Nat} {w : World} {x : Nd} {vv lv : Value} (h : NodeAt A base w x vv lv) (hb : base' ≤ base) (hA : ∀ b, base ≤ b → b < w.heap.size → A b → B b) : NodeAt B base' w x vv lv :=
 ⟨h.1.to hb hA, h.2.mono fun k hk h => ⟨Nat.le_trans hb h.1, hA k h.1 hk h.2.1, h.2.2⟩⟩
def NRo (base m : Nat) (w : World) (l : List Nd) (v : Value) (xs : List Value) : Prop := ∃ lo : Nat → Nat, (∀ i, lo i ≤ lo (i + 1)) ∧ lo l.length ≤ m ∧ ∀ i x, l[i]? = some x → NodeAt (fun b => v.ownBlock ≠ some b ∧ lo i ≤ b ∧ b < lo (i + 1)) base w x (xs.getD (i * 8 + 6) undef) (xs.getD (i * 8 + 7) undef)
theorem NRo.frame {base m m' : Nat} {w w' : World} {l : List Nd} {v : Value} {xs : List Value} (h : NRo base m w l v xs) (hf : Fr (fun _ => False) w w') (hm : m ≤ m') : NRo base m' w' l v xs := by
 obtain ⟨lo, h1, h2, h3⟩ := h
 exact ⟨lo, h1, Nat.le_trans h2 hm, fun i x hi => (h3 i x hi).frame hf fun _ _ => id⟩
def COwn (base : Nat) (w : World) (l : List Nd) (v : Value) : Prop := ∃ xs, w.ownsRow base 75 8 v l.length xs ∧ NEl base w l v xs ∧ NRo base w.heap.size w l v xs
theorem COwn.own {base : Nat} {w : World} {l : List Nd} {v : Value} (h : COwn base w l v) : NOwn 75 base w l v := by
 obtain ⟨xs, h1, h2, -⟩ := h
 exact ⟨xs, h1, h2⟩
theorem NOwn.x {base : Nat} {w : World} {l : List Nd} {v : Value} (h : NOwn 75 base w l v) : NOwnX (fun _ => True) base w l v := by
 obtain ⟨ys, ho, hx⟩ := h
 refine ⟨ys, ho, fun _ _ => trivial, fun i x hi => ?_⟩
 obtain ⟨u, hv, r⟩ := hx i x hi
 exact ⟨u, hv.mono fun k _ hk => ⟨hk.1, hk.2.1, hk.2.2.1, trivial, hk.2.2.2⟩, r⟩
theorem COwn.nil (base : Nat) (w : World) : COwn base w [] (.slice none 0 0) := ⟨[], World.ownsRow_nil _ _ _ _, fun i x h => by simp at h, fun _ => 0, fun _ => Nat.le_refl _, Nat.zero_le _, fun i x h => by simp at h⟩
theorem NRo.snoc {base m : Nat} {w w' : World} {l : List Nd} {v v' : Value} {xs : List Value} {x : Nd} {u : Array Value} (hlen : xs.length = l.length * 8) (h4 : u.size = 8) (hm : m ≤ w.heap.size)
  (hx : NRo base m w l v xs) (hf : Fr (fun k => some k = v.ownBlock) w w') (hn : ∀ k, v'.ownBlock = some k → v.ownBlock = some k ∨ w.heap.size ≤ k)
  (hu : NodeAt (fun b => v.ownBlock ≠ some b ∧ m ≤ b) base w x (u.getD 6 undef) (u.getD 7 undef)) : NRo base w'.heap.size w' (l ++ [x]) v' (xs ++ u.toList) := by
 obtain ⟨lo, hlo, hlm, hx⟩ := hx
 have key : ∀ {p q : Value} {y : Nd} {a b : Nat}, NodeAt (fun k => v.ownBlock ≠ some k ∧ a ≤ k ∧ k < b) base w y p q → NodeAt (fun k => v'.ownBlock ≠ some k ∧ a ≤ k ∧ k < b) base w' y p q := fun {p q y a b} h =>
  ((h.to (B := fun k => (v.ownBlock ≠ some k ∧ v'.ownBlock ≠ some k) ∧ a ≤ k ∧ k < b) (Nat.le_refl _) fun k _ hb2 hb => ⟨⟨hb.1, fun e => (hn k e).elim hb.1 fun h' => by omega⟩, hb.2⟩).frame hf fun k hb e => hb.1.1 e.symm).to (Nat.le_refl _) fun k _ _ hb => ⟨hb.1.2, hb.2⟩
 refine ⟨fun i => if i ≤ l.length then lo i else w.heap.size, fun i => ?_, ?_, fun i y hi => ?_⟩
 ·dsimp only
  by_cases h1 : i + 1 ≤ l.length
  ·rw [if_pos h1, if_pos (by omega)]
   exact hlo i
  ·rw [if_neg h1]
   by_cases h2 : i ≤ l.length
   ·rw [if_pos h2, show i = l.length by omega]
    omega
   ·rw [if_neg h2]
    exact Nat.le_refl _
 ·dsimp only
  rw [if_neg (by simp)]
  exact hf.size
 by_cases hlt : i < l.length
 ·rw [List.getElem?_append_left hlt] at hi
  have ho := hx i y hi
  have e : ∀ j, j < 8 → (xs ++ u.toList).getD (i * 8 + j) undef = xs.getD (i * 8 + j) undef := fun j hj => by
   rw [List.getD_eq_getElem?_getD, List.getD_eq_getElem?_getD, List.getElem?_append_left (by omega)]
  rw [e 6 (by decide), e 7 (by decide)]
  dsimp only
  rw [if_pos (by omega), if_pos (by omega)]
  exact key ho
 ·have hil := (List.getElem?_eq_some_iff.1 hi).1
  have : i = l.length := by simp at hil; omega
  subst this
  rw [List.getElem?_append_right (Nat.le_refl _)] at hi
  simp at hi
  subst hi
  have e : ∀ j, j < 8 → (xs ++ u.toList).getD (l.length * 8 + j) undef = u.getD j undef := fun j hj => by
   rw [List.getD_eq_getElem?_getD, List.getElem?_append_right (by omega), hlen, show l.length * 8 + j - l.length * 8 = j by omega, Array.getElem?_toList, Array.getD_eq_getD_getElem?]
  rw [e 6 (by decide), e 7 (by decide)]
  dsimp only
  rw [if_pos (Nat.le_refl _), if_neg (by omega)]
  exact key (hu.to (Nat.le_refl _) fun k _ hk hb => ⟨hb.1, by omega, hk⟩)
def NodeTo (N : Nat) : Prop := ∀ (x : Nd), x.sz < N → x.sz ≤ 1099511627776 → ∀ (D : Nat → Prop) (w : World) (u : Array Value), NIn D w x u →
  Calls Tryz.prog 64 #[.agg u] w fun e w' => ∃ u', e = .returned (.agg u') ∧ Fr (fun _ => False) w w' ∧ NIn (fun b => w.heap.size ≤ b ∧ Soft w' b) w' x u' ∧ NOwnX (fun b => w.heap.size ≤ b) w.heap.size w' x.l (u'.getD 7 undef) ∧ VL (fun b => w.heap.size ≤ b ∧ w.heap.size ≤ b ∧ (u'.getD 7 undef).ownBlock ≠ some b) w' x.v.l (u'.getD 6 undef)
set_option maxRecDepth 100000 in
set_option maxHeartbeats 1000000 in
theorem clone_of (N : Nat) (ih : NodeTo N) (l : List Nd) (hl : szL l < N) (hM : szL l ≤ 1099511627776) (D : Nat → Prop) (w : World) (v : Value) (h : NL D w l v) :
  Calls Tryz.prog 36 #[v] w fun e w' => ∃ v', e = .returned v' ∧ Fr (fun _ => False) w w' ∧ COwn w.heap.size w' l v' := by
 have hll := Nat.le_trans (len_le_cnt l) (cntL_szL l)
 obtain ⟨a, cap, us, rfl, hc, hm, hn, hb, hi⟩ := h
 have hlm : l.length ≤ 1099511627776 := by omega
 have HB := hid hb; have HI := hid hi; have HM := hid hM; have HN := hid hl; have HIH := hid ih
 clear hb hi hM hn hll hl ih
 go_enter Tryz.func36, Tryz.ntmps36
 go_wp2_with fail
 go_loopw [3, 8] (fun v i wr => ∃ k : Nat, k ≤ l.length ∧ i = .int .i64 k ∧ COwn w.heap.size wr (l.take k) v ∧ Fr (fun _ => False) w wr) (fun _ i _ => l.length - (intOf i).toNat)
 case atStart => exact ⟨0, Nat.zero_le _, rfl, by rw [List.take_zero]; exact COwn.nil _ _, Fr.refl _ _⟩
 case round =>
  obtain ⟨k, hk, rfl, hO, hf⟩ := hrel
  by_cases hlt : k < l.length
  ·obtain ⟨b, o, y, yva, c1, a', c', rfl, -, hy, hv, e0, e1, e2, e3, e4, e5, e6, e7⟩ := NL.elem HB.out HI.out k hlt
   have hlt' : (k : Int) < l.length := by omega
   replace e0 := hf.cell e0 not_false
   replace e1 := hf.cell e1 not_false
   replace e2 := hf.cell e2 not_false
   replace e3 := hf.cell e3 not_false
   replace e4 := hf.cell e4 not_false
   replace e5 := hf.cell e5 not_false
   replace e6 := hf.cell e6 not_false
   replace e7 := hf.cell e7 not_false
   have hfY := (Fr.refl (fun _ => False) wr).alloc (.cells #[.int .i64 y.op, .int .i64 y.ln, .string y.s, .int .i64 y.v.k, .int .i64 y.v.n, .string y.v.s, .slice yva y.v.l.length c1, .slice a' y.l.length c'] 75)
   have HGY := hid (heap_alloc_new wr (.cells #[.int .i64 y.op, .int .i64 y.ln, .string y.s, .int .i64 y.v.k, .int .i64 y.v.n, .string y.v.s, .slice yva y.v.l.length c1, .slice a' y.l.length c'] 75))
   have t2 := szL_mem hy
   have t4 := take_snoc' hy
   have hc := HIH.out y (by have := HN.out; omega) (by have := HM.out; omega) D _ _ (hv.frame (hf.trans' hfY) fun _ _ => not_false)
   have htl : (l.take k).length = k := by simp; omega
   have HT := hid t4; have HFr := hid hf; have HC := hid hc; have HO := hid hO; have HL := hid htl; have HFY := hid hfY
   clear hv t2 hy t4 hf hc hO htl hfY
   go_upto_region 5 with fail
   generalize hW : wr.alloc (.cells #[.int .i64 y.op, .int .i64 y.ln, .string y.s, .int .i64 y.v.k, .int .i64 y.v.n, .string y.v.s, .slice yva y.v.l.length c1, .slice a' y.l.length c'] 75) = W at *
   clear hW e0 e1 e2 e3 e4 e5 e6 e7
   obtain ⟨B2, hB2⟩ : ∃ B, wr.heap.size = B := ⟨_, rfl⟩
   rw [hB2] at HGY ⊢
   have HB2 := hid hB2
   clear hB2
   have y0 : W.cell? ⟨B2, 0, none⟩ = some (.int .i64 y.op) := by rw [cell_of_row _ _ 0 _ _ _ HGY.out]; rfl
   have y1 : W.cell? ⟨B2, 1, none⟩ = some (.int .i64 y.ln) := by rw [cell_of_row _ _ 1 _ _ _ HGY.out]; rfl
   have y2 : W.cell? ⟨B2, 2, none⟩ = some (.string y.s) := by rw [cell_of_row _ _ 2 _ _ _ HGY.out]; rfl
   have y3 : W.cell? ⟨B2, 3, none⟩ = some (.int .i64 y.v.k) := by rw [cell_of_row _ _ 3 _ _ _ HGY.out]; rfl
   have y4 : W.cell? ⟨B2, 4, none⟩ = some (.int .i64 y.v.n) := by rw [cell_of_row _ _ 4 _ _ _ HGY.out]; rfl
   have y5 : W.cell? ⟨B2, 5, none⟩ = some (.string y.v.s) := by rw [cell_of_row _ _ 5 _ _ _ HGY.out]; rfl
   have y6 : W.cell? ⟨B2, 6, none⟩ = some (.slice yva y.v.l.length c1) := by rw [cell_of_row _ _ 6 _ _ _ HGY.out]; rfl
   have y7 : W.cell? ⟨B2, 7, none⟩ = some (.slice a' y.l.length c') := by rw [cell_of_row _ _ 7 _ _ _ HGY.out]; rfl
   go_wp2_with fail
   refine HC.out.mono ?_
   rintro e w2 ⟨u', rfl, hf2, hv', hys⟩
   obtain ⟨va9, v', rfl, ⟨a9, c9, us9, rfl, -⟩, a2, c2, us2, rfl, _⟩ := hv'.open
   have HF2 := hid (HFY.out.trans' hf2)
   have HWS := hid (show wr.heap.size ≤ W.heap.size from HFY.out.size)
   have HV2 := hid hv'; have HYS := hid hys
   obtain ⟨xs, ho, hxs, hro⟩ := HO.out
   have HW := hid ho; have HXS := hid hxs; have HRO := hid hro
   clear hf2 hv' ho hxs hro hys y0 y1 y2 y3 y4 y5 y6 y7
   have hF3 : Fr (fun _ => False) wr (w2.alloc (.cells #[.int .i64 y.op, .int .i64 y.ln, .string y.s, .int .i64 y.v.k, .int .i64 y.v.n, .string y.v.s, .slice a9 y.v.l.length c9, .slice a2 y.l.length c2] 75)) := HF2.out.alloc _
   have hF32 : Fr (fun _ => False) w2 (w2.alloc (.cells #[.int .i64 y.op, .int .i64 y.ln, .string y.s, .int .i64 y.v.k, .int .i64 y.v.n, .string y.v.s, .slice a9 y.v.l.length c9, .slice a2 y.l.length c2] 75)) := (Fr.refl _ _).alloc _
   have hown := hF3.own HW.out (fun _ _ => id)
   have hn1 : (l.take k).length + 1 ≤ 1099511627776 := by rw [HL.out]; omega
   have hbs : w.heap.size ≤ (w2.alloc (.cells #[.int .i64 y.op, .int .i64 y.ln, .string y.s, .int .i64 y.v.k, .int .i64 y.v.n, .string y.v.s, .slice a9 y.v.l.length c9, .slice a2 y.l.length c2] 75)).heap.size := by
    have := HFr.out.size; have := hF3.size; omega
   have HF3 := hid hF3; have HF32 := hid hF32; have HBS := hid hbs; have HN1 := hid hn1; have HOW := hid hown
   clear hF3 hF32 hown hbs hn1
   go_wp2_with (at_builtin; go_must (refine wpList_appendR8 rfl (.tmp 12) (.tmp 15) 22 rfl 75 (.agg #[.int .i64 0, .int .i64 0, .string ⟨#[]⟩, .int .i64 0, .int .i64 0, .string ⟨#[]⟩, .slice none 0 0, .slice none 0 0]) 8 112 Tryz.underlying22 Tryz.info_nd8 rfl (by decide) _ rfl w.heap.size (l.take k).length xs HOW.out w2.heap.size 1 [.int .i64 y.op, .int .i64 y.ln, .string y.s, .int .i64 y.v.k, .int .i64 y.v.n, .string y.v.s, .slice a9 y.v.l.length c9, .slice a2 y.l.length c2] rfl rfl ?c1 ?c3 HN1.out (by decide) HBS.out ?_))
   case c1 => exact cells_new4 w2 #[.int .i64 y.op, .int .i64 y.ln, .string y.s, .int .i64 y.v.k, .int .i64 y.v.n, .string y.v.s, .slice a9 y.v.l.length c9, .slice a2 y.l.length c2] _ _
   case c3 => intro q hq; simp at hq; rcases hq with rfl | rfl | rfl | rfl | rfl | rfl | rfl | rfl <;> rfl
   intro g cp w4 ho4 hf4 hn4
   have hn4' : ∀ q, (Value.slice (some ⟨g, 0, none⟩) (k + 1) cp).ownBlock = some q → u3.ownBlock = some q ∨ (w2.alloc (.cells #[.int .i64 y.op, .int .i64 y.ln, .string y.s, .int .i64 y.v.k, .int .i64 y.v.n, .string y.v.s, .slice a9 y.v.l.length c9, .slice a2 y.l.length c2] 75)).heap.size ≤ q := fun q hq => by
    simp only [Value.ownBlock, Option.some.injEq] at hq
    subst hq
    simpa using hn4
   have hD : ∀ q, q < (w2.alloc (.cells #[.int .i64 y.op, .int .i64 y.ln, .string y.s, .int .i64 y.v.k, .int .i64 y.v.n, .string y.v.s, .slice a9 y.v.l.length c9, .slice a2 y.l.length c2] 75)).heap.size → (W.heap.size ≤ q ∧ Soft (w2.alloc (.cells #[.int .i64 y.op, .int .i64 y.ln, .string y.s, .int .i64 y.v.k, .int .i64 y.v.n, .string y.v.s, .slice a9 y.v.l.length c9, .slice a2 y.l.length c2] 75)) q) → w.heap.size ≤ q ∧ q < (w2.alloc (.cells #[.int .i64 y.op, .int .i64 y.ln, .string y.s, .int .i64 y.v.k, .int .i64 y.v.n, .string y.v.s, .slice a9 y.v.l.length c9, .slice a2 y.l.length c2] 75)).heap.size ∧ u3.ownBlock ≠ some q ∧ Soft (w2.alloc (.cells #[.int .i64 y.op, .int .i64 y.ln, .string y.s, .int .i64 y.v.k, .int .i64 y.v.n, .string y.v.s, .slice a9 y.v.l.length c9, .slice a2 y.l.length c2] 75)) q := fun q hq hq2 => ⟨by have := HFr.out.size; have := HWS.out; omega, hq, fun e => by have := (HW.out.lt q e).2; have := HWS.out; omega, hq2.2⟩
   have hsn := NEl.snoc (x := y) (u := #[.int .i64 y.op, .int .i64 y.ln, .string y.s, .int .i64 y.v.k, .int .i64 y.v.n, .string y.v.s, .slice a9 y.v.l.length c9, .slice a2 y.l.length c2]) HOW.out (fun i x hi => by
    obtain ⟨u, hu, r⟩ := HXS.out i x hi
    exact ⟨u, (hu.frame HF3.out fun _ _ => id).mono fun q _ hq => ⟨hq.1, Nat.lt_of_lt_of_le hq.2.1 HF3.out.size, hq.2.2.1, HF3.out.soft hq.2.1 id hq.2.2.2⟩, r⟩) (v' := .slice (some ⟨g, 0, none⟩) (k + 1) cp) (by rw [HL.out]; exact ho4) hf4 hn4' (((HV2.out.soft HF32.out fun _ _ => id).mono fun q hq hq2 => hD q hq hq2)) rfl
   have hat : NodeAt (fun b => W.heap.size ≤ b) W.heap.size w2 y (.slice a9 y.v.l.length c9) (.slice a2 y.l.length c2) := HYS.out
   have hrn := NRo.snoc (m := wr.heap.size) (x := y) (u := #[.int .i64 y.op, .int .i64 y.ln, .string y.s, .int .i64 y.v.k, .int .i64 y.v.n, .string y.v.s, .slice a9 y.v.l.length c9, .slice a2 y.l.length c2]) (v := u3) (v' := .slice (some ⟨g, 0, none⟩) (k + 1) cp) HOW.out.1 rfl HF3.out.size (HRO.out.frame HF3.out (Nat.le_refl _)) hf4 hn4' ((hat.frame HF32.out fun _ _ => id).to (by have := HFr.out.size; have := HWS.out; omega) fun r hr _ _ => ⟨fun e => by
     have h2 := (HW.out.lt r e).2
     have := HWS.out; omega, by have := HWS.out; omega⟩)
   have hO4 : COwn w.heap.size w4 (l.take (k + 1)) (.slice (some ⟨g, 0, none⟩) (k + 1) cp) := by
    rw [HT.out]
    exact ⟨_, hsn.1, hsn.2, hrn⟩
   have hf5 : Fr (fun _ => False) w w4 := (HFr.out.trans' HF3.out).trans hf4 (fun _ _ => id) (fun q hq e => by have h1 := (HW.out.lt q e.symm).1; omega)
   clear ho4 hf4 hn4 hn4' hsn hrn hD hat
   have HO4 := hid hO4; have HF5 := hid hf5
   clear hO4 hf5
   go_wp2_with fail
   go_roundw
   case rel => exact ⟨k + 1, by omega, by go_num, HO4.out, HF5.out⟩
   case measure => simp [intOf]; omega
  ·have hkl : l.take k = l := List.take_of_length_le (by omega)
   rw [hkl] at hO
   have HVL := hid hO; have HFr := hid hf
   obtain ⟨xs, ho, -⟩ := hO
   obtain ⟨av, cv, rfl, -⟩ := own_len ho
   clear hkl hf ho
   go_wp2_with fail
   go_ret
   exact ⟨_, rfl, HFr.out, HVL.out⟩
set_option maxRecDepth 100000 in
set_option maxHeartbeats 1000000 in
theorem node_of (N : Nat) (ih : NodeTo N) : NodeTo (N + 1) := by
 intro x hN hM D w u h
 have hs := Nd.sz_eq x
 obtain ⟨va, v, rfl, hX, hL⟩ := h.open
 have hcall := clone_of N ih x.l (by omega) (by omega) D
 obtain ⟨a1, c1, us1, rfl, -⟩ := id hX
 obtain ⟨a, cap, us, rfl, -⟩ := id hL
 have hval := fun w2 u => vclone_any x.v.size x.v (Nat.le_refl _) (by omega) D w2 u
 have hxv : VIn D w x.v #[.int .i64 x.v.k, .int .i64 x.v.n, .string x.v.s, .slice a1 x.v.l.length c1] := by
  have := hX.close x.v.k x.v.n x.v.s
  have e : x.v = .mk x.v.k x.v.n x.v.s x.v.l := by cases x.v; rfl
  rw [← e] at this; exact this
 have hopn : ∀ (E : Nat → Prop) (w' : World) (u' : Array Value), VIn E w' x.v u' → ∃ a8 c8, u' = #[.int .i64 x.v.k, .int .i64 x.v.n, .string x.v.s, .slice a8 x.v.l.length c8] ∧ VL E w' x.v.l (.slice a8 x.v.l.length c8) := fun E w' u' h => by
  obtain ⟨v', rfl, hl'⟩ := h.open
  obtain ⟨a8, c8, us8, rfl, h8⟩ := id hl'
  exact ⟨a8, c8, rfl, hl'⟩
 have hclose : ∀ (E : Nat → Prop) (w' : World) (va' la' : Value), VL E w' x.v.l va' → NL E w' x.l la' → NIn E w' x #[.int .i64 x.op, .int .i64 x.ln, .string x.s, .int .i64 x.v.k, .int .i64 x.v.n, .string x.v.s, va', la'] := fun E w' va' la' h1 h2 => by
  have := h2.close x.op x.ln x.s x.v h1
  have e : x = .mk x.op x.ln x.s x.v x.l := by cases x; rfl
  rw [← e] at this; exact this
 have HV := hid hval; have HX := hid hxv; have HOP := hid hopn; have HCL := hid hclose
 clear hval hxv hX hopn hclose hs
 generalize x.op = oo at *
 generalize x.ln = nn at *
 generalize x.s = ss at *
 generalize x.v.k = vk at *
 generalize x.v.n = vn at *
 generalize x.v.s = vs at *
 generalize x.v.l = vll at *
 generalize vll.length = vl at *
 generalize x.l = l at *
 have HL := hid hL; have HC := hid hcall
 clear hL hcall hN hM h
 go_enter Tryz.func64, Tryz.ntmps64
 go_upto_region 1 with fail
 have hb1 : ((w.alloc (.cells #[.int .i64 oo, .int .i64 nn, .string ss, .int .i64 vk, .int .i64 vn, .string vs, .slice a1 vl c1, .slice a l.length cap] 75)).alloc (.cells #[.int .i64 0, .int .i64 0, .string ⟨#[]⟩, .int .i64 0, .int .i64 0, .string ⟨#[]⟩, .slice none 0 0, .slice none 0 0] 75)).heap[w.heap.size]? = some (.cells #[.int .i64 oo, .int .i64 nn, .string ss, .int .i64 vk, .int .i64 vn, .string vs, .slice a1 vl c1, .slice a l.length cap] 75) := ((Fr.refl (fun _ => False) _).alloc _).heap (heap_alloc_new w _) not_false
 have hb2 : ((w.alloc (.cells #[.int .i64 oo, .int .i64 nn, .string ss, .int .i64 vk, .int .i64 vn, .string vs, .slice a1 vl c1, .slice a l.length cap] 75)).alloc (.cells #[.int .i64 0, .int .i64 0, .string ⟨#[]⟩, .int .i64 0, .int .i64 0, .string ⟨#[]⟩, .slice none 0 0, .slice none 0 0] 75)).heap[w.heap.size + 1]? = some (.cells #[.int .i64 0, .int .i64 0, .string ⟨#[]⟩, .int .i64 0, .int .i64 0, .string ⟨#[]⟩, .slice none 0 0, .slice none 0 0] 75) := by
  have := heap_alloc_new (w.alloc (.cells #[.int .i64 oo, .int .i64 nn, .string ss, .int .i64 vk, .int .i64 vn, .string vs, .slice a1 vl c1, .slice a l.length cap] 75)) (.cells #[.int .i64 0, .int .i64 0, .string ⟨#[]⟩, .int .i64 0, .int .i64 0, .string ⟨#[]⟩, .slice none 0 0, .slice none 0 0] 75)
  simpa using this
 have hF : Fr (fun _ => False) w ((w.alloc (.cells #[.int .i64 oo, .int .i64 nn, .string ss, .int .i64 vk, .int .i64 vn, .string vs, .slice a1 vl c1, .slice a l.length cap] 75)).alloc (.cells #[.int .i64 0, .int .i64 0, .string ⟨#[]⟩, .int .i64 0, .int .i64 0, .string ⟨#[]⟩, .slice none 0 0, .slice none 0 0] 75)) := ((Fr.refl _ _).alloc _).alloc _
 have hsz : ((w.alloc (.cells #[.int .i64 oo, .int .i64 nn, .string ss, .int .i64 vk, .int .i64 vn, .string vs, .slice a1 vl c1, .slice a l.length cap] 75)).alloc (.cells #[.int .i64 0, .int .i64 0, .string ⟨#[]⟩, .int .i64 0, .int .i64 0, .string ⟨#[]⟩, .slice none 0 0, .slice none 0 0] 75)).heap.size = w.heap.size + 2 := by simp
 generalize (w.alloc (.cells #[.int .i64 oo, .int .i64 nn, .string ss, .int .i64 vk, .int .i64 vn, .string vs, .slice a1 vl c1, .slice a l.length cap] 75)).alloc (.cells #[.int .i64 0, .int .i64 0, .string ⟨#[]⟩, .int .i64 0, .int .i64 0, .string ⟨#[]⟩, .slice none 0 0, .slice none 0 0] 75) = W at *
 have c0 : W.cell? ⟨w.heap.size, 0, none⟩ = some (.int .i64 oo) := by rw [cell_of_row _ _ 0 _ _ _ hb1]; rfl
 have c1' : W.cell? ⟨w.heap.size, 1, none⟩ = some (.int .i64 nn) := by rw [cell_of_row _ _ 1 _ _ _ hb1]; rfl
 have c2 : W.cell? ⟨w.heap.size, 2, none⟩ = some (.string ss) := by rw [cell_of_row _ _ 2 _ _ _ hb1]; rfl
 have c3 : W.cell? ⟨w.heap.size, 3, none⟩ = some (.int .i64 vk) := by rw [cell_of_row _ _ 3 _ _ _ hb1]; rfl
 have c4 : W.cell? ⟨w.heap.size, 4, none⟩ = some (.int .i64 vn) := by rw [cell_of_row _ _ 4 _ _ _ hb1]; rfl
 have c5 : W.cell? ⟨w.heap.size, 5, none⟩ = some (.string vs) := by rw [cell_of_row _ _ 5 _ _ _ hb1]; rfl
 have c6 : W.cell? ⟨w.heap.size, 6, none⟩ = some (.slice a1 vl c1) := by rw [cell_of_row _ _ 6 _ _ _ hb1]; rfl
 have c7 : W.cell? ⟨w.heap.size, 7, none⟩ = some (.slice a l.length cap) := by rw [cell_of_row _ _ 7 _ _ _ hb1]; rfl
 have H1 := hid hb1; have H2 := hid hb2; have HF := hid hF; have HZ := hid hsz
 clear hb1 hb2 hF hsz
 refine wpF_begin [0, 3, 6, 8] (fun _ => True) (by kernel_rfl) ?_
 (refine wpF_take (i := 0) ?_ (by kernel_rfl) (fun _ _ d _ _ h => by cases d <;> exact h) (by kernel_rfl) rfl (by kernel_rfl) (trivial) ?_ ?_; rotate_left; (· intro w' hS; go_simp; try with_reducible rfl); (try simp only [Act.put, List.setIfInBounds_toArray, List.set_cons_zero, List.set_cons_succ]))
 (refine wpF_take (i := 3) ?_ (by kernel_rfl) (fun _ _ d _ _ h => by cases d <;> exact h) (by kernel_rfl) rfl (by kernel_rfl) (trivial) ?_ ?_; rotate_left; (· intro w' hS; go_simp; try with_reducible rfl); (try simp only [Act.put, List.setIfInBounds_toArray, List.set_cons_zero, List.set_cons_succ]))
 refine wpF_run2 (i := 1) (j := 4) (by kernel_rfl) rfl rfl (by kernel_rfl) (by kernel_rfl) (fun K hK => ?_) (fun K hK => ?_)
 ·go_simp
  refine hK _ _ trivial ?_
  clear hK K
  try simp only [Act.put, List.setIfInBounds_toArray, List.set_cons_zero, List.set_cons_succ]
  refine wpF_run2 (i := 2) (j := 4) (by kernel_rfl) rfl rfl (by kernel_rfl) (by kernel_rfl) (fun K hK => ?_) (fun K hK => ?_)
  ·go_simp
   refine (HV.out W.drew _ (HX.out.frame HF.out.drew fun _ _ => id)).mono ?_
   rintro e w2 ⟨u8, rfl, hf2, hv2, -⟩
   obtain ⟨a8, c8, rfl, hl8⟩ := HOP.out _ _ _ hv2
   have HF2 := hid (HF.out.drew.trans' hf2); have HL8 := hid hl8; have HS2 := hid hf2.size; have HX2 := hid (hf2.heap (show W.drew.heap[w.heap.size]? = _ from H1.out) not_false); have HR2 := hid (hf2.heap (show W.drew.heap[w.heap.size + 1]? = _ from H2.out) not_false)
   clear hv2 hl8
   refine hK _ _ trivial ?_
   clear hK K
   try simp only [Act.put, List.setIfInBounds_toArray, List.set_cons_zero, List.set_cons_succ]
   have d7 := hf2.cell (show W.drew.cell? _ = _ from c7) not_false
   (refine wpF_run (i := 4) (by kernel_rfl) rfl (by kernel_rfl) (fun K hK => ?_); go_simp; refine hK _ _ (trivial) ?_; clear hK K; (try simp only [Act.put, List.setIfInBounds_toArray, List.set_cons_zero, List.set_cons_succ]))
   clear d7
   (refine wpF_take (i := 6) ?_ (by kernel_rfl) (fun _ _ d _ _ h => by cases d <;> exact h) (by kernel_rfl) rfl (by kernel_rfl) (trivial) ?_ ?_; rotate_left; (· intro w' hS; go_simp; try with_reducible rfl); (try simp only [Act.put, List.setIfInBounds_toArray, List.set_cons_zero, List.set_cons_succ]))
   refine wpF_run (i := 5) (by kernel_rfl) rfl (by kernel_rfl) (fun K hK => ?_); go_simp
   refine (HC.out w2 _ (HL.out.frame HF2.out fun _ _ => id)).mono ?_
   rintro e w3 ⟨v', rfl, hf3, hv'⟩
   have hcl := hv'.own.close
   have hxx := hv'.own.x
   obtain ⟨xs, hxo, -⟩ := hv'
   obtain ⟨a9, c9, rfl, -⟩ := own_len hxo
   have HXO := hid hxx; have HCLO := hid hcl; have HOB := hid (fun r e => (hxo.lt r e).1)
   have HF3 := hid (HF2.out.trans' hf3); have HFF := hid hf3; have HS3 := hid hf3.size; have HX3 := hid (hf3.heap HX2.out not_false); have HZ3 := hid (hf3.heap HR2.out not_false)
   clear hf3 hxo hcl hf2 hxx
   refine hK _ _ trivial ?_
   clear hK K
   try simp only [Act.put, List.setIfInBounds_toArray, List.set_cons_zero, List.set_cons_succ]
   have z0 : w3.cell? ⟨w.heap.size, 0, none⟩ = some (.int .i64 oo) := by rw [cell_of_row _ _ 0 _ _ _ HX3.out]; rfl
   have z1 : w3.cell? ⟨w.heap.size, 1, none⟩ = some (.int .i64 nn) := by rw [cell_of_row _ _ 1 _ _ _ HX3.out]; rfl
   have z2 : w3.cell? ⟨w.heap.size, 2, none⟩ = some (.string ss) := by rw [cell_of_row _ _ 2 _ _ _ HX3.out]; rfl
   have z3 : w3.cell? ⟨w.heap.size, 3, none⟩ = some (.int .i64 vk) := by rw [cell_of_row _ _ 3 _ _ _ HX3.out]; rfl
   have z4 : w3.cell? ⟨w.heap.size, 4, none⟩ = some (.int .i64 vn) := by rw [cell_of_row _ _ 4 _ _ _ HX3.out]; rfl
   have z5 : w3.cell? ⟨w.heap.size, 5, none⟩ = some (.string vs) := by rw [cell_of_row _ _ 5 _ _ _ HX3.out]; rfl
   have z6 : w3.cell? ⟨w.heap.size, 6, none⟩ = some (.slice a1 vl c1) := by rw [cell_of_row _ _ 6 _ _ _ HX3.out]; rfl
   have z7 : w3.cell? ⟨w.heap.size, 7, none⟩ = some (.slice a l.length cap) := by rw [cell_of_row _ _ 7 _ _ _ HX3.out]; rfl
   have fz : ∀ i, w3.frozen? ⟨w.heap.size, i, none⟩ = false := fun i => frozen_of_row _ _ i _ _ HX3.out
   (refine wpF_run (i := 7) (by kernel_rfl) rfl (by kernel_rfl) (fun K hK => ?_); go_simp; refine hK _ _ (trivial) ?_; clear hK K; (try simp only [Act.put, List.setIfInBounds_toArray, List.set_cons_zero, List.set_cons_succ]))
   (refine wpF_take (i := 8) ?_ (by kernel_rfl) (fun _ _ d _ _ h => by cases d <;> exact h) (by kernel_rfl) rfl (by kernel_rfl) (trivial) ?_ ?_; rotate_left; (· intro w' hS; go_simp; try with_reducible rfl); (try simp only [Act.put, List.setIfInBounds_toArray, List.set_cons_zero, List.set_cons_succ]))
   (refine wpF_run (i := 9) (by kernel_rfl) rfl (by kernel_rfl) (fun K hK => ?_); go_simp; refine hK _ _ (trivial) ?_; clear hK K; (try simp only [Act.put, List.setIfInBounds_toArray, List.set_cons_zero, List.set_cons_succ]))
   refine wpF_end (by kernel_rfl) ?_
   have hRN := (setCell_row 7 (.slice a9 l.length c9) (setCell_row 6 (.slice a8 vl c8) (setCell_row 5 (.string vs) (setCell_row 4 (.int .i64 vn) (setCell_row 3 (.int .i64 vk) HX3.out)))))
   simp only [List.setIfInBounds_toArray, List.set_cons_zero, List.set_cons_succ] at hRN
   have hfN : Fr (fun q => q = w.heap.size) w3 (((((w3.setCell ⟨w.heap.size, 3, none⟩ (.int .i64 vk)).setCell ⟨w.heap.size, 4, none⟩ (.int .i64 vn)).setCell ⟨w.heap.size, 5, none⟩ (.string vs)).setCell ⟨w.heap.size, 6, none⟩ (.slice a8 vl c8)).setCell ⟨w.heap.size, 7, none⟩ (.slice a9 l.length c9)) := ((((((Fr.refl (fun q => q = w.heap.size) w3).setCell (p := ⟨w.heap.size, 3, none⟩) (.inl rfl) (.int .i64 vk)).setCell (p := ⟨w.heap.size, 4, none⟩) (.inl rfl) (.int .i64 vn)).setCell (p := ⟨w.heap.size, 5, none⟩) (.inl rfl) (.string vs)).setCell (p := ⟨w.heap.size, 6, none⟩) (.inl rfl) (.slice a8 vl c8)).setCell (p := ⟨w.heap.size, 7, none⟩) (.inl rfl) (.slice a9 l.length c9))
   have HZ4 := hid (hfN.heap HZ3.out (by omega))
   clear z0 z1 z2 z3 z4 z5 z6 z7 fz c0 c1' c2 c3 c4 c5 c6 c7
   generalize hw4 : (((((w3.setCell ⟨w.heap.size, 3, none⟩ (.int .i64 vk)).setCell ⟨w.heap.size, 4, none⟩ (.int .i64 vn)).setCell ⟨w.heap.size, 5, none⟩ (.string vs)).setCell ⟨w.heap.size, 6, none⟩ (.slice a8 vl c8)).setCell ⟨w.heap.size, 7, none⟩ (.slice a9 l.length c9)) = w4 at *
   clear hw4
   have HRN := hid hRN; have HFN := hid hfN
   clear hRN hfN
   have d0 : w4.cell? ⟨w.heap.size, 0, none⟩ = some (.int .i64 oo) := by rw [cell_of_row _ _ 0 _ _ _ HRN.out]; rfl
   have d1 : w4.cell? ⟨w.heap.size, 1, none⟩ = some (.int .i64 nn) := by rw [cell_of_row _ _ 1 _ _ _ HRN.out]; rfl
   have d2 : w4.cell? ⟨w.heap.size, 2, none⟩ = some (.string ss) := by rw [cell_of_row _ _ 2 _ _ _ HRN.out]; rfl
   have d3 : w4.cell? ⟨w.heap.size, 3, none⟩ = some (.int .i64 vk) := by rw [cell_of_row _ _ 3 _ _ _ HRN.out]; rfl
   have d4 : w4.cell? ⟨w.heap.size, 4, none⟩ = some (.int .i64 vn) := by rw [cell_of_row _ _ 4 _ _ _ HRN.out]; rfl
   have d5 : w4.cell? ⟨w.heap.size, 5, none⟩ = some (.string vs) := by rw [cell_of_row _ _ 5 _ _ _ HRN.out]; rfl
   have d6 : w4.cell? ⟨w.heap.size, 6, none⟩ = some (.slice a8 vl c8) := by rw [cell_of_row _ _ 6 _ _ _ HRN.out]; rfl
   have d7 : w4.cell? ⟨w.heap.size, 7, none⟩ = some (.slice a9 l.length c9) := by rw [cell_of_row _ _ 7 _ _ _ HRN.out]; rfl
   have e0 : w4.cell? ⟨(w.heap.size + 1), 0, none⟩ = some (.int .i64 0) := by rw [cell_of_row _ _ 0 _ _ _ HZ4.out]; rfl
   have e1 : w4.cell? ⟨(w.heap.size + 1), 1, none⟩ = some (.int .i64 0) := by rw [cell_of_row _ _ 1 _ _ _ HZ4.out]; rfl
   have e2 : w4.cell? ⟨(w.heap.size + 1), 2, none⟩ = some (.string ⟨#[]⟩) := by rw [cell_of_row _ _ 2 _ _ _ HZ4.out]; rfl
   have e3 : w4.cell? ⟨(w.heap.size + 1), 3, none⟩ = some (.int .i64 0) := by rw [cell_of_row _ _ 3 _ _ _ HZ4.out]; rfl
   have e4 : w4.cell? ⟨(w.heap.size + 1), 4, none⟩ = some (.int .i64 0) := by rw [cell_of_row _ _ 4 _ _ _ HZ4.out]; rfl
   have e5 : w4.cell? ⟨(w.heap.size + 1), 5, none⟩ = some (.string ⟨#[]⟩) := by rw [cell_of_row _ _ 5 _ _ _ HZ4.out]; rfl
   have e6 : w4.cell? ⟨(w.heap.size + 1), 6, none⟩ = some (.slice none 0 0) := by rw [cell_of_row _ _ 6 _ _ _ HZ4.out]; rfl
   have e7 : w4.cell? ⟨(w.heap.size + 1), 7, none⟩ = some (.slice none 0 0) := by rw [cell_of_row _ _ 7 _ _ _ HZ4.out]; rfl
   have fe : ∀ i, w4.frozen? ⟨w.heap.size + 1, i, none⟩ = false := fun i => frozen_of_row _ _ i _ _ HZ4.out
   go_wp2_with fail
   have hR := (setCell_row 7 (.slice a9 l.length c9) (setCell_row 6 (.slice a8 vl c8) (setCell_row 5 (.string vs) (setCell_row 4 (.int .i64 vn) (setCell_row 3 (.int .i64 vk) (setCell_row 2 (.string ss) (setCell_row 1 (.int .i64 nn) (setCell_row 0 (.int .i64 oo) HZ4.out))))))))
   simp only [List.setIfInBounds_toArray, List.set_cons_zero, List.set_cons_succ] at hR
   have hf8 : Fr (fun q => q = w.heap.size + 1) w4 ((((((((w4.setCell ⟨w.heap.size + 1, 0, none⟩ (.int .i64 oo)).setCell ⟨w.heap.size + 1, 1, none⟩ (.int .i64 nn)).setCell ⟨w.heap.size + 1, 2, none⟩ (.string ss)).setCell ⟨w.heap.size + 1, 3, none⟩ (.int .i64 vk)).setCell ⟨w.heap.size + 1, 4, none⟩ (.int .i64 vn)).setCell ⟨w.heap.size + 1, 5, none⟩ (.string vs)).setCell ⟨w.heap.size + 1, 6, none⟩ (.slice a8 vl c8)).setCell ⟨w.heap.size + 1, 7, none⟩ (.slice a9 l.length c9)) := (((((((((Fr.refl (fun q => q = w.heap.size + 1) w4).setCell (p := ⟨w.heap.size + 1, 0, none⟩) (.inl rfl) (.int .i64 oo)).setCell (p := ⟨w.heap.size + 1, 1, none⟩) (.inl rfl) (.int .i64 nn)).setCell (p := ⟨w.heap.size + 1, 2, none⟩) (.inl rfl) (.string ss)).setCell (p := ⟨w.heap.size + 1, 3, none⟩) (.inl rfl) (.int .i64 vk)).setCell (p := ⟨w.heap.size + 1, 4, none⟩) (.inl rfl) (.int .i64 vn)).setCell (p := ⟨w.heap.size + 1, 5, none⟩) (.inl rfl) (.string vs)).setCell (p := ⟨w.heap.size + 1, 6, none⟩) (.inl rfl) (.slice a8 vl c8)).setCell (p := ⟨w.heap.size + 1, 7, none⟩) (.inl rfl) (.slice a9 l.length c9))
   refine bodyPost_ret (results_cell_row rfl _ _ (w.heap.size + 1) _ _ _ _ rfl hR Tryz.underlying75 rfl (by kernel_rfl)) rfl ?_
   have hf48 := HFN.out.trans hf8 (U := fun q => q = w.heap.size ∨ q = w.heap.size + 1) (fun _ _ h => .inl h) (fun q hq e => .inr e)
   have hWs := HZ.out
   have hv3 : VL (fun b => W.heap.size ≤ b ∧ Soft w3 b) w3 _ _ := HL8.out.softL HFF.out (fun _ _ h => h)
   have hn3 : NL (fun b => W.heap.size ≤ b ∧ Soft w3 b) w3 _ _ := HCLO.out.mono fun k _ hk => ⟨Nat.le_trans HS2.out hk.1, hk.2⟩
   have hw2s : W.heap.size ≤ w2.heap.size := HS2.out
   refine ⟨_, rfl, HF3.out.trans hf48 (fun _ _ => id) (fun q hq e => by omega), ((HCL.out _ _ _ _ hv3 hn3).soft hf48 (fun q hq e => by have h1 : W.heap.size ≤ q := hq; omega)).mono fun q _ hq => ⟨by have h1 : W.heap.size ≤ q := hq.1; omega, hq.2⟩, ?_⟩
   refine ⟨((HXO.out.to (B := fun b => w2.heap.size ≤ b) (Nat.le_refl _) fun b hb _ _ => hb).frame hf48 fun b hb e => by omega).to (by omega) fun b _ _ hb => by have h1 : w2.heap.size ≤ b := hb; omega, ?_⟩
   exact (((HL8.out.mono (E := fun b => W.heap.size ≤ b ∧ b < w2.heap.size) fun k hk h => ⟨h.1, hk⟩).frame HFF.out (fun _ _ => id)).frame hf48 (fun b hb e => by have := hb.1; omega)).mono fun k _ hk => ⟨by have := hk.1; omega, by have := hk.1; omega, fun e => by have h1 := HOB.out k e; have := hk.2; omega⟩
  ·go_simp
   refine hK _ _ trivial ?_
   clear hK K
   try simp only [Act.put, List.setIfInBounds_toArray, List.set_cons_zero, List.set_cons_succ]
   refine wpF_run (i := 2) (by kernel_rfl) rfl (by kernel_rfl) (fun K hK => ?_); go_simp
   refine (HV.out W.drew _ (HX.out.frame HF.out.drew fun _ _ => id)).mono ?_
   rintro e w2 ⟨u8, rfl, hf2, hv2, -⟩
   obtain ⟨a8, c8, rfl, hl8⟩ := HOP.out _ _ _ hv2
   have HF2 := hid (HF.out.drew.trans' hf2); have HL8 := hid hl8; have HS2 := hid hf2.size; have HX2 := hid (hf2.heap (show W.drew.heap[w.heap.size]? = _ from H1.out) not_false); have HR2 := hid (hf2.heap (show W.drew.heap[w.heap.size + 1]? = _ from H2.out) not_false)
   clear hv2 hl8
   refine hK _ _ trivial ?_
   clear hK K
   try simp only [Act.put, List.setIfInBounds_toArray, List.set_cons_zero, List.set_cons_succ]
   (refine wpF_take (i := 6) ?_ (by kernel_rfl) (fun _ _ d _ _ h => by cases d <;> exact h) (by kernel_rfl) rfl (by kernel_rfl) (trivial) ?_ ?_; rotate_left; (· intro w' hS; go_simp; try with_reducible rfl); (try simp only [Act.put, List.setIfInBounds_toArray, List.set_cons_zero, List.set_cons_succ]))
   refine wpF_run (i := 5) (by kernel_rfl) rfl (by kernel_rfl) (fun K hK => ?_); go_simp
   refine (HC.out w2 _ (HL.out.frame HF2.out fun _ _ => id)).mono ?_
   rintro e w3 ⟨v', rfl, hf3, hv'⟩
   have hcl := hv'.own.close
   have hxx := hv'.own.x
   obtain ⟨xs, hxo, -⟩ := hv'
   obtain ⟨a9, c9, rfl, -⟩ := own_len hxo
   have HXO := hid hxx; have HCLO := hid hcl; have HOB := hid (fun r e => (hxo.lt r e).1)
   have HF3 := hid (HF2.out.trans' hf3); have HFF := hid hf3; have HS3 := hid hf3.size; have HX3 := hid (hf3.heap HX2.out not_false); have HZ3 := hid (hf3.heap HR2.out not_false)
   clear hf3 hxo hcl hf2 hxx
   refine hK _ _ trivial ?_
   clear hK K
   try simp only [Act.put, List.setIfInBounds_toArray, List.set_cons_zero, List.set_cons_succ]
   have z0 : w3.cell? ⟨w.heap.size, 0, none⟩ = some (.int .i64 oo) := by rw [cell_of_row _ _ 0 _ _ _ HX3.out]; rfl
   have z1 : w3.cell? ⟨w.heap.size, 1, none⟩ = some (.int .i64 nn) := by rw [cell_of_row _ _ 1 _ _ _ HX3.out]; rfl
   have z2 : w3.cell? ⟨w.heap.size, 2, none⟩ = some (.string ss) := by rw [cell_of_row _ _ 2 _ _ _ HX3.out]; rfl
   have z3 : w3.cell? ⟨w.heap.size, 3, none⟩ = some (.int .i64 vk) := by rw [cell_of_row _ _ 3 _ _ _ HX3.out]; rfl
   have z4 : w3.cell? ⟨w.heap.size, 4, none⟩ = some (.int .i64 vn) := by rw [cell_of_row _ _ 4 _ _ _ HX3.out]; rfl
   have z5 : w3.cell? ⟨w.heap.size, 5, none⟩ = some (.string vs) := by rw [cell_of_row _ _ 5 _ _ _ HX3.out]; rfl
   have z6 : w3.cell? ⟨w.heap.size, 6, none⟩ = some (.slice a1 vl c1) := by rw [cell_of_row _ _ 6 _ _ _ HX3.out]; rfl
   have z7 : w3.cell? ⟨w.heap.size, 7, none⟩ = some (.slice a l.length cap) := by rw [cell_of_row _ _ 7 _ _ _ HX3.out]; rfl
   have fz : ∀ i, w3.frozen? ⟨w.heap.size, i, none⟩ = false := fun i => frozen_of_row _ _ i _ _ HX3.out
   (refine wpF_run (i := 7) (by kernel_rfl) rfl (by kernel_rfl) (fun K hK => ?_); go_simp; refine hK _ _ (trivial) ?_; clear hK K; (try simp only [Act.put, List.setIfInBounds_toArray, List.set_cons_zero, List.set_cons_succ]))
   (refine wpF_take (i := 8) ?_ (by kernel_rfl) (fun _ _ d _ _ h => by cases d <;> exact h) (by kernel_rfl) rfl (by kernel_rfl) (trivial) ?_ ?_; rotate_left; (· intro w' hS; go_simp; try with_reducible rfl); (try simp only [Act.put, List.setIfInBounds_toArray, List.set_cons_zero, List.set_cons_succ]))
   (refine wpF_run (i := 9) (by kernel_rfl) rfl (by kernel_rfl) (fun K hK => ?_); go_simp; refine hK _ _ (trivial) ?_; clear hK K; (try simp only [Act.put, List.setIfInBounds_toArray, List.set_cons_zero, List.set_cons_succ]))
   refine wpF_end (by kernel_rfl) ?_
   have hRN := (setCell_row 7 (.slice a9 l.length c9) (setCell_row 6 (.slice a8 vl c8) (setCell_row 5 (.string vs) (setCell_row 4 (.int .i64 vn) (setCell_row 3 (.int .i64 vk) HX3.out)))))
   simp only [List.setIfInBounds_toArray, List.set_cons_zero, List.set_cons_succ] at hRN
   have hfN : Fr (fun q => q = w.heap.size) w3 (((((w3.setCell ⟨w.heap.size, 3, none⟩ (.int .i64 vk)).setCell ⟨w.heap.size, 4, none⟩ (.int .i64 vn)).setCell ⟨w.heap.size, 5, none⟩ (.string vs)).setCell ⟨w.heap.size, 6, none⟩ (.slice a8 vl c8)).setCell ⟨w.heap.size, 7, none⟩ (.slice a9 l.length c9)) := ((((((Fr.refl (fun q => q = w.heap.size) w3).setCell (p := ⟨w.heap.size, 3, none⟩) (.inl rfl) (.int .i64 vk)).setCell (p := ⟨w.heap.size, 4, none⟩) (.inl rfl) (.int .i64 vn)).setCell (p := ⟨w.heap.size, 5, none⟩) (.inl rfl) (.string vs)).setCell (p := ⟨w.heap.size, 6, none⟩) (.inl rfl) (.slice a8 vl c8)).setCell (p := ⟨w.heap.size, 7, none⟩) (.inl rfl) (.slice a9 l.length c9))
   have HZ4 := hid (hfN.heap HZ3.out (by omega))
   clear z0 z1 z2 z3 z4 z5 z6 z7 fz c0 c1' c2 c3 c4 c5 c6 c7
   generalize hw4 : (((((w3.setCell ⟨w.heap.size, 3, none⟩ (.int .i64 vk)).setCell ⟨w.heap.size, 4, none⟩ (.int .i64 vn)).setCell ⟨w.heap.size, 5, none⟩ (.string vs)).setCell ⟨w.heap.size, 6, none⟩ (.slice a8 vl c8)).setCell ⟨w.heap.size, 7, none⟩ (.slice a9 l.length c9)) = w4 at *
   clear hw4
   have HRN := hid hRN; have HFN := hid hfN
   clear hRN hfN
   have d0 : w4.cell? ⟨w.heap.size, 0, none⟩ = some (.int .i64 oo) := by rw [cell_of_row _ _ 0 _ _ _ HRN.out]; rfl
   have d1 : w4.cell? ⟨w.heap.size, 1, none⟩ = some (.int .i64 nn) := by rw [cell_of_row _ _ 1 _ _ _ HRN.out]; rfl
   have d2 : w4.cell? ⟨w.heap.size, 2, none⟩ = some (.string ss) := by rw [cell_of_row _ _ 2 _ _ _ HRN.out]; rfl
   have d3 : w4.cell? ⟨w.heap.size, 3, none⟩ = some (.int .i64 vk) := by rw [cell_of_row _ _ 3 _ _ _ HRN.out]; rfl
   have d4 : w4.cell? ⟨w.heap.size, 4, none⟩ = some (.int .i64 vn) := by rw [cell_of_row _ _ 4 _ _ _ HRN.out]; rfl
   have d5 : w4.cell? ⟨w.heap.size, 5, none⟩ = some (.string vs) := by rw [cell_of_row _ _ 5 _ _ _ HRN.out]; rfl
   have d6 : w4.cell? ⟨w.heap.size, 6, none⟩ = some (.slice a8 vl c8) := by rw [cell_of_row _ _ 6 _ _ _ HRN.out]; rfl
   have d7 : w4.cell? ⟨w.heap.size, 7, none⟩ = some (.slice a9 l.length c9) := by rw [cell_of_row _ _ 7 _ _ _ HRN.out]; rfl
   have e0 : w4.cell? ⟨(w.heap.size + 1), 0, none⟩ = some (.int .i64 0) := by rw [cell_of_row _ _ 0 _ _ _ HZ4.out]; rfl
   have e1 : w4.cell? ⟨(w.heap.size + 1), 1, none⟩ = some (.int .i64 0) := by rw [cell_of_row _ _ 1 _ _ _ HZ4.out]; rfl
   have e2 : w4.cell? ⟨(w.heap.size + 1), 2, none⟩ = some (.string ⟨#[]⟩) := by rw [cell_of_row _ _ 2 _ _ _ HZ4.out]; rfl
   have e3 : w4.cell? ⟨(w.heap.size + 1), 3, none⟩ = some (.int .i64 0) := by rw [cell_of_row _ _ 3 _ _ _ HZ4.out]; rfl
   have e4 : w4.cell? ⟨(w.heap.size + 1), 4, none⟩ = some (.int .i64 0) := by rw [cell_of_row _ _ 4 _ _ _ HZ4.out]; rfl
   have e5 : w4.cell? ⟨(w.heap.size + 1), 5, none⟩ = some (.string ⟨#[]⟩) := by rw [cell_of_row _ _ 5 _ _ _ HZ4.out]; rfl
   have e6 : w4.cell? ⟨(w.heap.size + 1), 6, none⟩ = some (.slice none 0 0) := by rw [cell_of_row _ _ 6 _ _ _ HZ4.out]; rfl
   have e7 : w4.cell? ⟨(w.heap.size + 1), 7, none⟩ = some (.slice none 0 0) := by rw [cell_of_row _ _ 7 _ _ _ HZ4.out]; rfl
   have fe : ∀ i, w4.frozen? ⟨w.heap.size + 1, i, none⟩ = false := fun i => frozen_of_row _ _ i _ _ HZ4.out
   go_wp2_with fail
   have hR := (setCell_row 7 (.slice a9 l.length c9) (setCell_row 6 (.slice a8 vl c8) (setCell_row 5 (.string vs) (setCell_row 4 (.int .i64 vn) (setCell_row 3 (.int .i64 vk) (setCell_row 2 (.string ss) (setCell_row 1 (.int .i64 nn) (setCell_row 0 (.int .i64 oo) HZ4.out))))))))
   simp only [List.setIfInBounds_toArray, List.set_cons_zero, List.set_cons_succ] at hR
   have hf8 : Fr (fun q => q = w.heap.size + 1) w4 ((((((((w4.setCell ⟨w.heap.size + 1, 0, none⟩ (.int .i64 oo)).setCell ⟨w.heap.size + 1, 1, none⟩ (.int .i64 nn)).setCell ⟨w.heap.size + 1, 2, none⟩ (.string ss)).setCell ⟨w.heap.size + 1, 3, none⟩ (.int .i64 vk)).setCell ⟨w.heap.size + 1, 4, none⟩ (.int .i64 vn)).setCell ⟨w.heap.size + 1, 5, none⟩ (.string vs)).setCell ⟨w.heap.size + 1, 6, none⟩ (.slice a8 vl c8)).setCell ⟨w.heap.size + 1, 7, none⟩ (.slice a9 l.length c9)) := (((((((((Fr.refl (fun q => q = w.heap.size + 1) w4).setCell (p := ⟨w.heap.size + 1, 0, none⟩) (.inl rfl) (.int .i64 oo)).setCell (p := ⟨w.heap.size + 1, 1, none⟩) (.inl rfl) (.int .i64 nn)).setCell (p := ⟨w.heap.size + 1, 2, none⟩) (.inl rfl) (.string ss)).setCell (p := ⟨w.heap.size + 1, 3, none⟩) (.inl rfl) (.int .i64 vk)).setCell (p := ⟨w.heap.size + 1, 4, none⟩) (.inl rfl) (.int .i64 vn)).setCell (p := ⟨w.heap.size + 1, 5, none⟩) (.inl rfl) (.string vs)).setCell (p := ⟨w.heap.size + 1, 6, none⟩) (.inl rfl) (.slice a8 vl c8)).setCell (p := ⟨w.heap.size + 1, 7, none⟩) (.inl rfl) (.slice a9 l.length c9))
   refine bodyPost_ret (results_cell_row rfl _ _ (w.heap.size + 1) _ _ _ _ rfl hR Tryz.underlying75 rfl (by kernel_rfl)) rfl ?_
   have hf48 := HFN.out.trans hf8 (U := fun q => q = w.heap.size ∨ q = w.heap.size + 1) (fun _ _ h => .inl h) (fun q hq e => .inr e)
   have hWs := HZ.out
   have hv3 : VL (fun b => W.heap.size ≤ b ∧ Soft w3 b) w3 _ _ := HL8.out.softL HFF.out (fun _ _ h => h)
   have hn3 : NL (fun b => W.heap.size ≤ b ∧ Soft w3 b) w3 _ _ := HCLO.out.mono fun k _ hk => ⟨Nat.le_trans HS2.out hk.1, hk.2⟩
   have hw2s : W.heap.size ≤ w2.heap.size := HS2.out
   refine ⟨_, rfl, HF3.out.trans hf48 (fun _ _ => id) (fun q hq e => by omega), ((HCL.out _ _ _ _ hv3 hn3).soft hf48 (fun q hq e => by have h1 : W.heap.size ≤ q := hq; omega)).mono fun q _ hq => ⟨by have h1 : W.heap.size ≤ q := hq.1; omega, hq.2⟩, ?_⟩
   refine ⟨((HXO.out.to (B := fun b => w2.heap.size ≤ b) (Nat.le_refl _) fun b hb _ _ => hb).frame hf48 fun b hb e => by omega).to (by omega) fun b _ _ hb => by have h1 : w2.heap.size ≤ b := hb; omega, ?_⟩
   exact (((HL8.out.mono (E := fun b => W.heap.size ≤ b ∧ b < w2.heap.size) fun k hk h => ⟨h.1, hk⟩).frame HFF.out (fun _ _ => id)).frame hf48 (fun b hb e => by have := hb.1; omega)).mono fun k _ hk => ⟨by have := hk.1; omega, by have := hk.1; omega, fun e => by have h1 := HOB.out k e; have := hk.2; omega⟩
 ·go_simp
  refine hK _ _ trivial ?_
  clear hK K
  try simp only [Act.put, List.setIfInBounds_toArray, List.set_cons_zero, List.set_cons_succ]
  (refine wpF_run (i := 1) (by kernel_rfl) rfl (by kernel_rfl) (fun K hK => ?_); go_simp; refine hK _ _ (trivial) ?_; clear hK K; (try simp only [Act.put, List.setIfInBounds_toArray, List.set_cons_zero, List.set_cons_succ]))
  refine wpF_run (i := 2) (by kernel_rfl) rfl (by kernel_rfl) (fun K hK => ?_); go_simp
  refine (HV.out W.drew _ (HX.out.frame HF.out.drew fun _ _ => id)).mono ?_
  rintro e w2 ⟨u8, rfl, hf2, hv2, -⟩
  obtain ⟨a8, c8, rfl, hl8⟩ := HOP.out _ _ _ hv2
  have HF2 := hid (HF.out.drew.trans' hf2); have HL8 := hid hl8; have HS2 := hid hf2.size; have HX2 := hid (hf2.heap (show W.drew.heap[w.heap.size]? = _ from H1.out) not_false); have HR2 := hid (hf2.heap (show W.drew.heap[w.heap.size + 1]? = _ from H2.out) not_false)
  clear hv2 hl8
  refine hK _ _ trivial ?_
  clear hK K
  try simp only [Act.put, List.setIfInBounds_toArray, List.set_cons_zero, List.set_cons_succ]
  (refine wpF_take (i := 6) ?_ (by kernel_rfl) (fun _ _ d _ _ h => by cases d <;> exact h) (by kernel_rfl) rfl (by kernel_rfl) (trivial) ?_ ?_; rotate_left; (· intro w' hS; go_simp; try with_reducible rfl); (try simp only [Act.put, List.setIfInBounds_toArray, List.set_cons_zero, List.set_cons_succ]))
  refine wpF_run (i := 5) (by kernel_rfl) rfl (by kernel_rfl) (fun K hK => ?_); go_simp
  refine (HC.out w2 _ (HL.out.frame HF2.out fun _ _ => id)).mono ?_
  rintro e w3 ⟨v', rfl, hf3, hv'⟩
  have hcl := hv'.own.close
  have hxx := hv'.own.x
  obtain ⟨xs, hxo, -⟩ := hv'
  obtain ⟨a9, c9, rfl, -⟩ := own_len hxo
  have HXO := hid hxx; have HCLO := hid hcl; have HOB := hid (fun r e => (hxo.lt r e).1)
  have HF3 := hid (HF2.out.trans' hf3); have HFF := hid hf3; have HS3 := hid hf3.size; have HX3 := hid (hf3.heap HX2.out not_false); have HZ3 := hid (hf3.heap HR2.out not_false)
  clear hf3 hxo hcl hf2 hxx
  refine hK _ _ trivial ?_
  clear hK K
  try simp only [Act.put, List.setIfInBounds_toArray, List.set_cons_zero, List.set_cons_succ]
  have z0 : w3.cell? ⟨w.heap.size, 0, none⟩ = some (.int .i64 oo) := by rw [cell_of_row _ _ 0 _ _ _ HX3.out]; rfl
  have z1 : w3.cell? ⟨w.heap.size, 1, none⟩ = some (.int .i64 nn) := by rw [cell_of_row _ _ 1 _ _ _ HX3.out]; rfl
  have z2 : w3.cell? ⟨w.heap.size, 2, none⟩ = some (.string ss) := by rw [cell_of_row _ _ 2 _ _ _ HX3.out]; rfl
  have z3 : w3.cell? ⟨w.heap.size, 3, none⟩ = some (.int .i64 vk) := by rw [cell_of_row _ _ 3 _ _ _ HX3.out]; rfl
  have z4 : w3.cell? ⟨w.heap.size, 4, none⟩ = some (.int .i64 vn) := by rw [cell_of_row _ _ 4 _ _ _ HX3.out]; rfl
  have z5 : w3.cell? ⟨w.heap.size, 5, none⟩ = some (.string vs) := by rw [cell_of_row _ _ 5 _ _ _ HX3.out]; rfl
  have z6 : w3.cell? ⟨w.heap.size, 6, none⟩ = some (.slice a1 vl c1) := by rw [cell_of_row _ _ 6 _ _ _ HX3.out]; rfl
  have z7 : w3.cell? ⟨w.heap.size, 7, none⟩ = some (.slice a l.length cap) := by rw [cell_of_row _ _ 7 _ _ _ HX3.out]; rfl
  have fz : ∀ i, w3.frozen? ⟨w.heap.size, i, none⟩ = false := fun i => frozen_of_row _ _ i _ _ HX3.out
  (refine wpF_run (i := 7) (by kernel_rfl) rfl (by kernel_rfl) (fun K hK => ?_); go_simp; refine hK _ _ (trivial) ?_; clear hK K; (try simp only [Act.put, List.setIfInBounds_toArray, List.set_cons_zero, List.set_cons_succ]))
  (refine wpF_take (i := 8) ?_ (by kernel_rfl) (fun _ _ d _ _ h => by cases d <;> exact h) (by kernel_rfl) rfl (by kernel_rfl) (trivial) ?_ ?_; rotate_left; (· intro w' hS; go_simp; try with_reducible rfl); (try simp only [Act.put, List.setIfInBounds_toArray, List.set_cons_zero, List.set_cons_succ]))
  (refine wpF_run (i := 9) (by kernel_rfl) rfl (by kernel_rfl) (fun K hK => ?_); go_simp; refine hK _ _ (trivial) ?_; clear hK K; (try simp only [Act.put, List.setIfInBounds_toArray, List.set_cons_zero, List.set_cons_succ]))
  refine wpF_end (by kernel_rfl) ?_
  have hRN := (setCell_row 7 (.slice a9 l.length c9) (setCell_row 6 (.slice a8 vl c8) (setCell_row 5 (.string vs) (setCell_row 4 (.int .i64 vn) (setCell_row 3 (.int .i64 vk) HX3.out)))))
  simp only [List.setIfInBounds_toArray, List.set_cons_zero, List.set_cons_succ] at hRN
  have hfN : Fr (fun q => q = w.heap.size) w3 (((((w3.setCell ⟨w.heap.size, 3, none⟩ (.int .i64 vk)).setCell ⟨w.heap.size, 4, none⟩ (.int .i64 vn)).setCell ⟨w.heap.size, 5, none⟩ (.string vs)).setCell ⟨w.heap.size, 6, none⟩ (.slice a8 vl c8)).setCell ⟨w.heap.size, 7, none⟩ (.slice a9 l.length c9)) := ((((((Fr.refl (fun q => q = w.heap.size) w3).setCell (p := ⟨w.heap.size, 3, none⟩) (.inl rfl) (.int .i64 vk)).setCell (p := ⟨w.heap.size, 4, none⟩) (.inl rfl) (.int .i64 vn)).setCell (p := ⟨w.heap.size, 5, none⟩) (.inl rfl) (.string vs)).setCell (p := ⟨w.heap.size, 6, none⟩) (.inl rfl) (.slice a8 vl c8)).setCell (p := ⟨w.heap.size, 7, none⟩) (.inl rfl) (.slice a9 l.length c9))
  have HZ4 := hid (hfN.heap HZ3.out (by omega))
  clear z0 z1 z2 z3 z4 z5 z6 z7 fz c0 c1' c2 c3 c4 c5 c6 c7
  generalize hw4 : (((((w3.setCell ⟨w.heap.size, 3, none⟩ (.int .i64 vk)).setCell ⟨w.heap.size, 4, none⟩ (.int .i64 vn)).setCell ⟨w.heap.size, 5, none⟩ (.string vs)).setCell ⟨w.heap.size, 6, none⟩ (.slice a8 vl c8)).setCell ⟨w.heap.size, 7, none⟩ (.slice a9 l.length c9)) = w4 at *
  clear hw4
  have HRN := hid hRN; have HFN := hid hfN
  clear hRN hfN
  have d0 : w4.cell? ⟨w.heap.size, 0, none⟩ = some (.int .i64 oo) := by rw [cell_of_row _ _ 0 _ _ _ HRN.out]; rfl
  have d1 : w4.cell? ⟨w.heap.size, 1, none⟩ = some (.int .i64 nn) := by rw [cell_of_row _ _ 1 _ _ _ HRN.out]; rfl
  have d2 : w4.cell? ⟨w.heap.size, 2, none⟩ = some (.string ss) := by rw [cell_of_row _ _ 2 _ _ _ HRN.out]; rfl
  have d3 : w4.cell? ⟨w.heap.size, 3, none⟩ = some (.int .i64 vk) := by rw [cell_of_row _ _ 3 _ _ _ HRN.out]; rfl
  have d4 : w4.cell? ⟨w.heap.size, 4, none⟩ = some (.int .i64 vn) := by rw [cell_of_row _ _ 4 _ _ _ HRN.out]; rfl
  have d5 : w4.cell? ⟨w.heap.size, 5, none⟩ = some (.string vs) := by rw [cell_of_row _ _ 5 _ _ _ HRN.out]; rfl
  have d6 : w4.cell? ⟨w.heap.size, 6, none⟩ = some (.slice a8 vl c8) := by rw [cell_of_row _ _ 6 _ _ _ HRN.out]; rfl
  have d7 : w4.cell? ⟨w.heap.size, 7, none⟩ = some (.slice a9 l.length c9) := by rw [cell_of_row _ _ 7 _ _ _ HRN.out]; rfl
  have e0 : w4.cell? ⟨(w.heap.size + 1), 0, none⟩ = some (.int .i64 0) := by rw [cell_of_row _ _ 0 _ _ _ HZ4.out]; rfl
  have e1 : w4.cell? ⟨(w.heap.size + 1), 1, none⟩ = some (.int .i64 0) := by rw [cell_of_row _ _ 1 _ _ _ HZ4.out]; rfl
  have e2 : w4.cell? ⟨(w.heap.size + 1), 2, none⟩ = some (.string ⟨#[]⟩) := by rw [cell_of_row _ _ 2 _ _ _ HZ4.out]; rfl
  have e3 : w4.cell? ⟨(w.heap.size + 1), 3, none⟩ = some (.int .i64 0) := by rw [cell_of_row _ _ 3 _ _ _ HZ4.out]; rfl
  have e4 : w4.cell? ⟨(w.heap.size + 1), 4, none⟩ = some (.int .i64 0) := by rw [cell_of_row _ _ 4 _ _ _ HZ4.out]; rfl
  have e5 : w4.cell? ⟨(w.heap.size + 1), 5, none⟩ = some (.string ⟨#[]⟩) := by rw [cell_of_row _ _ 5 _ _ _ HZ4.out]; rfl
  have e6 : w4.cell? ⟨(w.heap.size + 1), 6, none⟩ = some (.slice none 0 0) := by rw [cell_of_row _ _ 6 _ _ _ HZ4.out]; rfl
  have e7 : w4.cell? ⟨(w.heap.size + 1), 7, none⟩ = some (.slice none 0 0) := by rw [cell_of_row _ _ 7 _ _ _ HZ4.out]; rfl
  have fe : ∀ i, w4.frozen? ⟨w.heap.size + 1, i, none⟩ = false := fun i => frozen_of_row _ _ i _ _ HZ4.out
  go_wp2_with fail
  have hR := (setCell_row 7 (.slice a9 l.length c9) (setCell_row 6 (.slice a8 vl c8) (setCell_row 5 (.string vs) (setCell_row 4 (.int .i64 vn) (setCell_row 3 (.int .i64 vk) (setCell_row 2 (.string ss) (setCell_row 1 (.int .i64 nn) (setCell_row 0 (.int .i64 oo) HZ4.out))))))))
  simp only [List.setIfInBounds_toArray, List.set_cons_zero, List.set_cons_succ] at hR
  have hf8 : Fr (fun q => q = w.heap.size + 1) w4 ((((((((w4.setCell ⟨w.heap.size + 1, 0, none⟩ (.int .i64 oo)).setCell ⟨w.heap.size + 1, 1, none⟩ (.int .i64 nn)).setCell ⟨w.heap.size + 1, 2, none⟩ (.string ss)).setCell ⟨w.heap.size + 1, 3, none⟩ (.int .i64 vk)).setCell ⟨w.heap.size + 1, 4, none⟩ (.int .i64 vn)).setCell ⟨w.heap.size + 1, 5, none⟩ (.string vs)).setCell ⟨w.heap.size + 1, 6, none⟩ (.slice a8 vl c8)).setCell ⟨w.heap.size + 1, 7, none⟩ (.slice a9 l.length c9)) := (((((((((Fr.refl (fun q => q = w.heap.size + 1) w4).setCell (p := ⟨w.heap.size + 1, 0, none⟩) (.inl rfl) (.int .i64 oo)).setCell (p := ⟨w.heap.size + 1, 1, none⟩) (.inl rfl) (.int .i64 nn)).setCell (p := ⟨w.heap.size + 1, 2, none⟩) (.inl rfl) (.string ss)).setCell (p := ⟨w.heap.size + 1, 3, none⟩) (.inl rfl) (.int .i64 vk)).setCell (p := ⟨w.heap.size + 1, 4, none⟩) (.inl rfl) (.int .i64 vn)).setCell (p := ⟨w.heap.size + 1, 5, none⟩) (.inl rfl) (.string vs)).setCell (p := ⟨w.heap.size + 1, 6, none⟩) (.inl rfl) (.slice a8 vl c8)).setCell (p := ⟨w.heap.size + 1, 7, none⟩) (.inl rfl) (.slice a9 l.length c9))
  refine bodyPost_ret (results_cell_row rfl _ _ (w.heap.size + 1) _ _ _ _ rfl hR Tryz.underlying75 rfl (by kernel_rfl)) rfl ?_
  have hf48 := HFN.out.trans hf8 (U := fun q => q = w.heap.size ∨ q = w.heap.size + 1) (fun _ _ h => .inl h) (fun q hq e => .inr e)
  have hWs := HZ.out
  have hv3 : VL (fun b => W.heap.size ≤ b ∧ Soft w3 b) w3 _ _ := HL8.out.softL HFF.out (fun _ _ h => h)
  have hn3 : NL (fun b => W.heap.size ≤ b ∧ Soft w3 b) w3 _ _ := HCLO.out.mono fun k _ hk => ⟨Nat.le_trans HS2.out hk.1, hk.2⟩
  have hw2s : W.heap.size ≤ w2.heap.size := HS2.out
  refine ⟨_, rfl, HF3.out.trans hf48 (fun _ _ => id) (fun q hq e => by omega), ((HCL.out _ _ _ _ hv3 hn3).soft hf48 (fun q hq e => by have h1 : W.heap.size ≤ q := hq; omega)).mono fun q _ hq => ⟨by have h1 : W.heap.size ≤ q := hq.1; omega, hq.2⟩, ?_⟩
  refine ⟨((HXO.out.to (B := fun b => w2.heap.size ≤ b) (Nat.le_refl _) fun b hb _ _ => hb).frame hf48 fun b hb e => by omega).to (by omega) fun b _ _ hb => by have h1 : w2.heap.size ≤ b := hb; omega, ?_⟩
  exact (((HL8.out.mono (E := fun b => W.heap.size ≤ b ∧ b < w2.heap.size) fun k hk h => ⟨h.1, hk⟩).frame HFF.out (fun _ _ => id)).frame hf48 (fun b hb e => by have := hb.1; omega)).mono fun k _ hk => ⟨by have := hk.1; omega, by have := hk.1; omega, fun e => by have h1 := HOB.out k e; have := hk.2; omega⟩
theorem node_to : ∀ N, NodeTo N
 | 0 => fun x h => by omega
 | N + 1 => node_of N (node_to N)
theorem tclone_any (l : List Nd) (hM : szL l ≤ 1099511627776) (D : Nat → Prop) (w : World) (v : Value) (h : NL D w l v) :
  Calls Tryz.prog 36 #[v] w fun e w' => ∃ v', e = .returned v' ∧ Fr (fun _ => False) w w' ∧ COwn w.heap.size w' l v' :=
 clone_of (szL l + 1) (node_to _) l (by omega) hM D w v h
end
end Go.Proofs.YtbegahbagnflnaaGreatDoor
