/- Clone, TreeWalk, EncN: several texts in one: a claim has at most 60 files -/
import Derived.Test.YtbegahbagnflnaaDoorMa06
import Derived.Test.YtbegahbagnflnaaDoorMa07
import Derived.Test.YtbegahbagnflnaaDoorMa04
import Derived.Test.YtbegahbagnflnaaDoorMa08
import Derived.Deep.CutRange
set_option linter.unusedSimpArgs false
set_option linter.unusedVariables false
set_option linter.unnecessarySimpa false
namespace Go.Proofs.YtbegahbagnflnaaDoor
section
open Go.RowKit

def NEl (base : Nat) (w : World) (l : List Nd) (v : Value) (xs : List Value) : Prop := ∀ i x, l[i]? = some x → ∃ u, NIn (fun b => base ≤ b ∧ b < w.heap.size ∧ v.ownBlock ≠ some b ∧ Soft w b) w x u ∧ u.size = 8 ∧ ∀ j, j < 8 → xs[i * 8 + j]? = u[j]?
theorem NEl.snoc {e base : Nat} {w w' : World} {l : List Nd} {v v' : Value} {xs : List Value} {x : Nd} {u : Array Value}
    (ho : w.ownsRow base e 8 v l.length xs) (hx : ∀ i x, l[i]? = some x → ∃ u, NIn (fun b => base ≤ b ∧ b < w.heap.size ∧ v.ownBlock ≠ some b ∧ Soft w b) w x u ∧ u.size = 8 ∧ ∀ j, j < 8 → xs[i * 8 + j]? = u[j]?)
    (ho' : w'.ownsRow base e 8 v' (l.length + 1) (xs ++ u.toList)) (hf : Fr (fun k => some k = v.ownBlock) w w') (hn : ∀ k, v'.ownBlock = some k → v.ownBlock = some k ∨ w.heap.size ≤ k)
    (hv : NIn (fun b => base ≤ b ∧ b < w.heap.size ∧ v.ownBlock ≠ some b ∧ Soft w b) w x u) (h4 : u.size = 8) : w'.ownsRow base e 8 v' (l ++ [x]).length (xs ++ u.toList) ∧ NEl base w' (l ++ [x]) v' (xs ++ u.toList) := by
  have hlen : xs.length = l.length * 8 := ho.1
  have key : ∀ {y : Nd} {c : Array Value}, NIn (fun b => base ≤ b ∧ b < w.heap.size ∧ v.ownBlock ≠ some b ∧ Soft w b) w y c → NIn (fun b => base ≤ b ∧ b < w'.heap.size ∧ v'.ownBlock ≠ some b ∧ Soft w' b) w' y c := fun h =>
    (h.frame hf fun k hk e => hk.2.2.1 e.symm).mono fun k _ hk => ⟨hk.1, Nat.lt_of_lt_of_le hk.2.1 hf.size, fun e => by
      rcases hn k e with h1 | h1
      · exact hk.2.2.1 h1
      · have := hk.2.1; omega, hf.soft hk.2.1 (fun e => hk.2.2.1 e.symm) hk.2.2.2⟩
  refine ⟨by simpa using ho', fun i y hi => ?_⟩
  by_cases hlt : i < l.length
  · rw [List.getElem?_append_left hlt] at hi
    obtain ⟨c, hc, h4c, hj⟩ := hx i y hi
    refine ⟨c, key hc, h4c, fun j hj4 => ?_⟩
    rw [List.getElem?_append_left (by omega)]
    exact hj j hj4
  · have hil := (List.getElem?_eq_some_iff.1 hi).1
    have : i = l.length := by simp at hil; omega
    subst this
    rw [List.getElem?_append_right (Nat.le_refl _)] at hi
    simp at hi
    subst hi
    refine ⟨u, key hv, h4, fun j hj4 => ?_⟩
    rw [List.getElem?_append_right (by omega)]
    simp [hlen]
theorem own_base' {w : World} {b b' e size n : Nat} {v : Value} {xs : List Value} (h : w.ownsRow b e size v n xs) (hb : b' ≤ b) : w.ownsRow b' e size v n xs := own_rebase h (fun k hk => Nat.le_trans hb (h.lt k hk).1)
/-- A row of nodes of its own; it, and all that its nodes lead to, lies where A says. -/
def NOwnX (A : Nat → Prop) (base : Nat) (w : World) (l : List Nd) (v : Value) : Prop :=
  ∃ ys, w.ownsRow base 36 8 v l.length ys ∧ (∀ r, v.ownBlock = some r → A r) ∧ ∀ i x, l[i]? = some x → ∃ u, NIn (fun b => base ≤ b ∧ b < w.heap.size ∧ v.ownBlock ≠ some b ∧ A b ∧ Soft w b) w x u ∧ u.size = 8 ∧ ∀ j, j < 8 → ys[i * 8 + j]? = u[j]?
theorem NOwnX.frame {A S : Nat → Prop} {base : Nat} {w w' : World} {l : List Nd} {v : Value} (h : NOwnX A base w l v) (hf : Fr S w w') (hA : ∀ b, A b → ¬ S b) : NOwnX A base w' l v := by
  obtain ⟨ys, ho, hr, hx⟩ := h
  refine ⟨ys, hf.own ho (fun r h => hA r (hr r h)), hr, fun i x hi => ?_⟩
  obtain ⟨u, hv, r⟩ := hx i x hi
  exact ⟨u, (hv.frame hf fun k hk => hA k hk.2.2.2.1).mono fun k _ hk => ⟨hk.1, Nat.lt_of_lt_of_le hk.2.1 hf.size, hk.2.2.1, hk.2.2.2.1, hf.soft hk.2.1 (hA k hk.2.2.2.1) hk.2.2.2.2⟩, r⟩
theorem NOwnX.to {A B : Nat → Prop} {base base' : Nat} {w : World} {l : List Nd} {v : Value} (h : NOwnX A base w l v) (hb : base' ≤ base) (hA : ∀ b, base ≤ b → b < w.heap.size → A b → B b) : NOwnX B base' w l v := by
  obtain ⟨ys, ho, hr, hx⟩ := h
  refine ⟨ys, own_base' ho hb, fun r h => hA r (ho.lt r h).1 (ho.lt r h).2 (hr r h), fun i x hi => ?_⟩
  obtain ⟨u, hv, r⟩ := hx i x hi
  exact ⟨u, hv.mono fun k _ hk => ⟨Nat.le_trans hb hk.1, hk.2.1, hk.2.2.1, hA k hk.1 hk.2.1 hk.2.2.2.1, hk.2.2.2.2⟩, r⟩
/-- A node's row and its value's: where A says; the value leads not to the row. -/
def NodeAt (A : Nat → Prop) (base : Nat) (w : World) (x : Nd) (vv lv : Value) : Prop := NOwnX A base w x.l lv ∧ VL (fun b => base ≤ b ∧ A b ∧ lv.ownBlock ≠ some b) w x.v.l vv
theorem NodeAt.frame {A S : Nat → Prop} {base : Nat} {w w' : World} {x : Nd} {vv lv : Value} (h : NodeAt A base w x vv lv) (hf : Fr S w w') (hA : ∀ b, A b → ¬ S b) : NodeAt A base w' x vv lv := ⟨h.1.frame hf hA, h.2.frame hf fun k hk => hA k hk.2.1⟩
theorem NodeAt.to {A B : Nat → Prop} {base base' : Nat} {w : World} {x : Nd} {vv lv : Value} (h : NodeAt A base w x vv lv) (hb : base' ≤ base) (hA : ∀ b, base ≤ b → b < w.heap.size → A b → B b) : NodeAt B base' w x vv lv :=
  ⟨h.1.to hb hA, h.2.mono fun k hk h => ⟨Nat.le_trans hb h.1, hA k h.1 hk h.2.1, h.2.2⟩⟩
/-- Each node has memory of its own, apart from its neighbours'; none of it is the list's. -/
def NRo (base m : Nat) (w : World) (l : List Nd) (v : Value) (xs : List Value) : Prop := ∃ lo : Nat → Nat, (∀ i, lo i ≤ lo (i + 1)) ∧ lo l.length ≤ m ∧ ∀ i x, l[i]? = some x → NodeAt (fun b => v.ownBlock ≠ some b ∧ lo i ≤ b ∧ b < lo (i + 1)) base w x (xs.getD (i * 8 + 6) undef) (xs.getD (i * 8 + 7) undef)
theorem NRo.frame {base m m' : Nat} {w w' : World} {l : List Nd} {v : Value} {xs : List Value} (h : NRo base m w l v xs) (hf : Fr (fun _ => False) w w') (hm : m ≤ m') : NRo base m' w' l v xs := by
  obtain ⟨lo, h1, h2, h3⟩ := h
  exact ⟨lo, h1, Nat.le_trans h2 hm, fun i x hi => (h3 i x hi).frame hf fun _ _ => id⟩
/-- A copy. -/
def COwn (base : Nat) (w : World) (l : List Nd) (v : Value) : Prop := ∃ xs, w.ownsRow base 36 8 v l.length xs ∧ NEl base w l v xs ∧ NRo base w.heap.size w l v xs
theorem COwn.own {base : Nat} {w : World} {l : List Nd} {v : Value} (h : COwn base w l v) : NOwn 36 base w l v := by
  obtain ⟨xs, h1, h2, -⟩ := h
  exact ⟨xs, h1, h2⟩
theorem NOwn.x {base : Nat} {w : World} {l : List Nd} {v : Value} (h : NOwn 36 base w l v) : NOwnX (fun _ => True) base w l v := by
  obtain ⟨ys, ho, hx⟩ := h
  refine ⟨ys, ho, fun _ _ => trivial, fun i x hi => ?_⟩
  obtain ⟨u, hv, r⟩ := hx i x hi
  exact ⟨u, hv.mono fun k _ hk => ⟨hk.1, hk.2.1, hk.2.2.1, trivial, hk.2.2.2⟩, r⟩
theorem COwn.nil (base : Nat) (w : World) : COwn base w [] (.slice none 0 0) := ⟨[], World.ownsRow_nil _ _ _ _, fun i x h => by simp at h, fun _ => 0, fun _ => Nat.le_refl _, Nat.zero_le _, fun i x h => by simp at h⟩
theorem NRo.snoc {base m : Nat} {w w' : World} {l : List Nd} {v v' : Value} {xs : List Value} {x : Nd} {u : Array Value} (hlen : xs.length = l.length * 8) (h4 : u.size = 8) (hm : m ≤ w.heap.size)
    (hx : NRo base m w l v xs) (hf : Fr (fun k => some k = v.ownBlock) w w') (hn : ∀ k, v'.ownBlock = some k → v.ownBlock = some k ∨ w.heap.size ≤ k)
    (hu : NodeAt (fun b => v.ownBlock ≠ some b ∧ m ≤ b) base w x (u.getD 6 undef) (u.getD 7 undef)) : NRo base w'.heap.size w' (l ++ [x]) v' (xs ++ u.toList) := by
  obtain ⟨lo, hlo, hlm, hx⟩ := hx
  have key : ∀ {p q : Value} {y : Nd} {a b : Nat}, NodeAt (fun k => v.ownBlock ≠ some k ∧ a ≤ k ∧ k < b) base w y p q → NodeAt (fun k => v'.ownBlock ≠ some k ∧ a ≤ k ∧ k < b) base w' y p q := fun {p q y a b} h =>
    ((h.to (B := fun k => (v.ownBlock ≠ some k ∧ v'.ownBlock ≠ some k) ∧ a ≤ k ∧ k < b) (Nat.le_refl _) fun k _ hb2 hb => ⟨⟨hb.1, fun e => (hn k e).elim hb.1 fun h' => by omega⟩, hb.2⟩).frame hf fun k hb e => hb.1.1 e.symm).to (Nat.le_refl _) fun k _ _ hb => ⟨hb.1.2, hb.2⟩
  refine ⟨fun i => if i ≤ l.length then lo i else w.heap.size, fun i => ?_, ?_, fun i y hi => ?_⟩
  · dsimp only
    by_cases h1 : i + 1 ≤ l.length
    · rw [if_pos h1, if_pos (by omega)]
      exact hlo i
    · rw [if_neg h1]
      by_cases h2 : i ≤ l.length
      · rw [if_pos h2, show i = l.length by omega]
        omega
      · rw [if_neg h2]
        exact Nat.le_refl _
  · dsimp only
    rw [if_neg (by simp)]
    exact hf.size
  by_cases hlt : i < l.length
  · rw [List.getElem?_append_left hlt] at hi
    have ho := hx i y hi
    have e : ∀ j, j < 8 → (xs ++ u.toList).getD (i * 8 + j) undef = xs.getD (i * 8 + j) undef := fun j hj => by
      rw [List.getD_eq_getElem?_getD, List.getD_eq_getElem?_getD, List.getElem?_append_left (by omega)]
    rw [e 6 (by decide), e 7 (by decide)]
    dsimp only
    rw [if_pos (by omega), if_pos (by omega)]
    exact key ho
  · have hil := (List.getElem?_eq_some_iff.1 hi).1
    have : i = l.length := by simp at hil; omega
    subst this
    rw [List.getElem?_append_right (Nat.le_refl _)] at hi
    simp at hi
    subst hi
    have e : ∀ j, j < 8 → (xs ++ u.toList).getD (l.length * 8 + j) undef = u.getD j undef := fun j hj => by
      rw [List.getD_eq_getElem?_getD, List.getElem?_append_right (by omega), hlen, show l.length * 8 + j - l.length * 8 = j by omega, Array.getElem?_toList, Array.getD_eq_getD_getElem?]
    rw [e 6 (by decide), e 7 (by decide)]
    dsimp only
    rw [if_pos (Nat.le_refl _), if_neg (by omega)]
    exact key (hu.to (Nat.le_refl _) fun k _ hk hb => ⟨hb.1, by omega, hk⟩)
theorem COwn.frame {base : Nat} {w w' : World} {l : List Nd} {v : Value} (h : COwn base w l v) (hf : Fr (fun _ => False) w w') : COwn base w' l v := by
  obtain ⟨xs, ho, hx, hr⟩ := h
  refine ⟨xs, hf.own ho (fun _ _ => id), fun i x hi => ?_, hr.frame hf hf.size⟩
  obtain ⟨u, hv, r⟩ := hx i x hi
  exact ⟨u, (hv.frame hf fun _ _ => id).mono fun k _ hk => ⟨hk.1, Nat.lt_of_lt_of_le hk.2.1 hf.size, hk.2.2.1, hf.soft hk.2.1 id hk.2.2.2⟩, r⟩
/-- The contract of node up to a size. -/
def NodeTo (N : Nat) : Prop := ∀ (x : Nd), x.sz < N → x.sz ≤ 1099511627776 → ∀ (D : Nat → Prop) (w : World) (u : Array Value), NIn D w x u →
    Calls Tryd.prog 67 #[.agg u] w fun e w' => ∃ u', e = .returned (.agg u') ∧ Fr (fun _ => False) w w' ∧ NIn (fun b => w.heap.size ≤ b ∧ Soft w' b) w' x u' ∧ NOwnX (fun b => w.heap.size ≤ b) w.heap.size w' x.l (u'.getD 7 undef) ∧ VL (fun b => w.heap.size ≤ b ∧ w.heap.size ≤ b ∧ (u'.getD 7 undef).ownBlock ≠ some b) w' x.v.l (u'.getD 6 undef)
set_option maxRecDepth 100000 in
set_option maxHeartbeats 1000000 in
theorem clone_of (N : Nat) (ih : NodeTo N) (l : List Nd) (hl : szL l < N) (hM : szL l ≤ 1099511627776) (D : Nat → Prop) (w : World) (v : Value) (h : NL D w l v) :
    Calls Tryd.prog 36 #[v] w fun e w' => ∃ v', e = .returned v' ∧ Fr (fun _ => False) w w' ∧ COwn w.heap.size w' l v' := by
  have hll := Nat.le_trans (len_le_cnt l) (cntL_szL l)
  obtain ⟨a, cap, us, rfl, hc, hm, hn, hb, hi⟩ := h
  have hlm : l.length ≤ 1099511627776 := by omega
  have HB := hid hb; have HI := hid hi; have HM := hid hM; have HN := hid hl; have HIH := hid ih
  clear hb hi hM hn hll hl ih
  go_enter Tryd.func36, Tryd.ntmps36
  go_wp2_with fail
  go_loopw [3, 8] (fun v i wr => ∃ k : Nat, k ≤ l.length ∧ i = .int .i64 k ∧ COwn w.heap.size wr (l.take k) v ∧ Fr (fun _ => False) w wr) (fun _ i _ => l.length - (intOf i).toNat)
  case atStart => exact ⟨0, Nat.zero_le _, rfl, by rw [List.take_zero]; exact COwn.nil _ _, Fr.refl _ _⟩
  case round =>
    obtain ⟨k, hk, rfl, hO, hf⟩ := hrel
    by_cases hlt : k < l.length
    · obtain ⟨b, o, y, yva, c1, a', c', rfl, -, hy, hv, e0, e1, e2, e3, e4, e5, e6, e7⟩ := NL.elem HB.out HI.out k hlt
      have hlt' : (k : Int) < l.length := by omega
      replace e0 := hf.cell e0 not_false
      replace e1 := hf.cell e1 not_false
      replace e2 := hf.cell e2 not_false
      replace e3 := hf.cell e3 not_false
      replace e4 := hf.cell e4 not_false
      replace e5 := hf.cell e5 not_false
      replace e6 := hf.cell e6 not_false
      replace e7 := hf.cell e7 not_false
      have hfY := (Fr.refl (fun _ => False) wr).alloc (.cells #[.int .i64 y.op, .int .i64 y.ln, .string y.s, .int .i64 y.v.k, .int .i64 y.v.n, .string y.v.s, .slice yva y.v.l.length c1, .slice a' y.l.length c'] 36)
      have HGY := hid (heap_alloc_new wr (.cells #[.int .i64 y.op, .int .i64 y.ln, .string y.s, .int .i64 y.v.k, .int .i64 y.v.n, .string y.v.s, .slice yva y.v.l.length c1, .slice a' y.l.length c'] 36))
      have t2 := szL_mem hy
      have t4 := take_snoc' hy
      have hc := HIH.out y (by have := HN.out; omega) (by have := HM.out; omega) D _ _ (hv.frame (hf.trans' hfY) fun _ _ => not_false)
      have htl : (l.take k).length = k := by simp; omega
      have HT := hid t4; have HFr := hid hf; have HC := hid hc; have HO := hid hO; have HL := hid htl; have HFY := hid hfY
      clear hv t2 hy t4 hf hc hO htl hfY
      go_upto_region 5 with fail
      generalize hW : wr.alloc (.cells #[.int .i64 y.op, .int .i64 y.ln, .string y.s, .int .i64 y.v.k, .int .i64 y.v.n, .string y.v.s, .slice yva y.v.l.length c1, .slice a' y.l.length c'] 36) = W at *
      clear hW e0 e1 e2 e3 e4 e5 e6 e7
      obtain ⟨B2, hB2⟩ : ∃ B, wr.heap.size = B := ⟨_, rfl⟩
      rw [hB2] at HGY ⊢
      have HB2 := hid hB2
      clear hB2
      have y0 : W.cell? ⟨B2, 0, none⟩ = some (.int .i64 y.op) := by rw [cell_of_row _ _ 0 _ _ _ HGY.out]; rfl
      have y1 : W.cell? ⟨B2, 1, none⟩ = some (.int .i64 y.ln) := by rw [cell_of_row _ _ 1 _ _ _ HGY.out]; rfl
      have y2 : W.cell? ⟨B2, 2, none⟩ = some (.string y.s) := by rw [cell_of_row _ _ 2 _ _ _ HGY.out]; rfl
      have y3 : W.cell? ⟨B2, 3, none⟩ = some (.int .i64 y.v.k) := by rw [cell_of_row _ _ 3 _ _ _ HGY.out]; rfl
      have y4 : W.cell? ⟨B2, 4, none⟩ = some (.int .i64 y.v.n) := by rw [cell_of_row _ _ 4 _ _ _ HGY.out]; rfl
      have y5 : W.cell? ⟨B2, 5, none⟩ = some (.string y.v.s) := by rw [cell_of_row _ _ 5 _ _ _ HGY.out]; rfl
      have y6 : W.cell? ⟨B2, 6, none⟩ = some (.slice yva y.v.l.length c1) := by rw [cell_of_row _ _ 6 _ _ _ HGY.out]; rfl
      have y7 : W.cell? ⟨B2, 7, none⟩ = some (.slice a' y.l.length c') := by rw [cell_of_row _ _ 7 _ _ _ HGY.out]; rfl
      go_wp2_with fail
      refine HC.out.mono ?_
      rintro e w2 ⟨u', rfl, hf2, hv', hys⟩
      obtain ⟨va9, v', rfl, ⟨a9, c9, us9, rfl, -⟩, a2, c2, us2, rfl, _⟩ := hv'.open
      have HF2 := hid (HFY.out.trans' hf2)
      have HWS := hid (show wr.heap.size ≤ W.heap.size from HFY.out.size)
      have HV2 := hid hv'; have HYS := hid hys
      obtain ⟨xs, ho, hxs, hro⟩ := HO.out
      have HW := hid ho; have HXS := hid hxs; have HRO := hid hro
      clear hf2 hv' ho hxs hro hys y0 y1 y2 y3 y4 y5 y6 y7
      have hF3 : Fr (fun _ => False) wr (w2.alloc (.cells #[.int .i64 y.op, .int .i64 y.ln, .string y.s, .int .i64 y.v.k, .int .i64 y.v.n, .string y.v.s, .slice a9 y.v.l.length c9, .slice a2 y.l.length c2] 36)) := HF2.out.alloc _
      have hF32 : Fr (fun _ => False) w2 (w2.alloc (.cells #[.int .i64 y.op, .int .i64 y.ln, .string y.s, .int .i64 y.v.k, .int .i64 y.v.n, .string y.v.s, .slice a9 y.v.l.length c9, .slice a2 y.l.length c2] 36)) := (Fr.refl _ _).alloc _
      have hown := hF3.own HW.out (fun _ _ => id)
      have hn1 : (l.take k).length + 1 ≤ 1099511627776 := by rw [HL.out]; omega
      have hbs : w.heap.size ≤ (w2.alloc (.cells #[.int .i64 y.op, .int .i64 y.ln, .string y.s, .int .i64 y.v.k, .int .i64 y.v.n, .string y.v.s, .slice a9 y.v.l.length c9, .slice a2 y.l.length c2] 36)).heap.size := by
        have := HFr.out.size; have := hF3.size; omega
      have HF3 := hid hF3; have HF32 := hid hF32; have HBS := hid hbs; have HN1 := hid hn1; have HOW := hid hown
      clear hF3 hF32 hown hbs hn1
      go_wp2_with (at_builtin; go_must (refine wpList_appendR8 rfl (.tmp 12) (.tmp 15) 22 rfl 36 (.agg #[.int .i64 0, .int .i64 0, .string ⟨#[]⟩, .int .i64 0, .int .i64 0, .string ⟨#[]⟩, .slice none 0 0, .slice none 0 0]) 8 112 Tryd.underlying22 Tryd.info_nd8 rfl (by decide) _ rfl w.heap.size (l.take k).length xs HOW.out w2.heap.size 1 [.int .i64 y.op, .int .i64 y.ln, .string y.s, .int .i64 y.v.k, .int .i64 y.v.n, .string y.v.s, .slice a9 y.v.l.length c9, .slice a2 y.l.length c2] rfl rfl ?c1 ?c3 HN1.out (by decide) HBS.out ?_))
      case c1 => exact cells_new4 w2 #[.int .i64 y.op, .int .i64 y.ln, .string y.s, .int .i64 y.v.k, .int .i64 y.v.n, .string y.v.s, .slice a9 y.v.l.length c9, .slice a2 y.l.length c2] _ _
      case c3 => intro q hq; simp at hq; rcases hq with rfl | rfl | rfl | rfl | rfl | rfl | rfl | rfl <;> rfl
      intro g cp w4 ho4 hf4 hn4
      have hn4' : ∀ q, (Value.slice (some ⟨g, 0, none⟩) (k + 1) cp).ownBlock = some q → u3.ownBlock = some q ∨ (w2.alloc (.cells #[.int .i64 y.op, .int .i64 y.ln, .string y.s, .int .i64 y.v.k, .int .i64 y.v.n, .string y.v.s, .slice a9 y.v.l.length c9, .slice a2 y.l.length c2] 36)).heap.size ≤ q := fun q hq => by
        simp only [Value.ownBlock, Option.some.injEq] at hq
        subst hq
        simpa using hn4
      have hD : ∀ q, q < (w2.alloc (.cells #[.int .i64 y.op, .int .i64 y.ln, .string y.s, .int .i64 y.v.k, .int .i64 y.v.n, .string y.v.s, .slice a9 y.v.l.length c9, .slice a2 y.l.length c2] 36)).heap.size → (W.heap.size ≤ q ∧ Soft (w2.alloc (.cells #[.int .i64 y.op, .int .i64 y.ln, .string y.s, .int .i64 y.v.k, .int .i64 y.v.n, .string y.v.s, .slice a9 y.v.l.length c9, .slice a2 y.l.length c2] 36)) q) → w.heap.size ≤ q ∧ q < (w2.alloc (.cells #[.int .i64 y.op, .int .i64 y.ln, .string y.s, .int .i64 y.v.k, .int .i64 y.v.n, .string y.v.s, .slice a9 y.v.l.length c9, .slice a2 y.l.length c2] 36)).heap.size ∧ u3.ownBlock ≠ some q ∧ Soft (w2.alloc (.cells #[.int .i64 y.op, .int .i64 y.ln, .string y.s, .int .i64 y.v.k, .int .i64 y.v.n, .string y.v.s, .slice a9 y.v.l.length c9, .slice a2 y.l.length c2] 36)) q := fun q hq hq2 => ⟨by have := HFr.out.size; have := HWS.out; omega, hq, fun e => by have := (HW.out.lt q e).2; have := HWS.out; omega, hq2.2⟩
      have hsn := NEl.snoc (x := y) (u := #[.int .i64 y.op, .int .i64 y.ln, .string y.s, .int .i64 y.v.k, .int .i64 y.v.n, .string y.v.s, .slice a9 y.v.l.length c9, .slice a2 y.l.length c2]) HOW.out (fun i x hi => by
        obtain ⟨u, hu, r⟩ := HXS.out i x hi
        exact ⟨u, (hu.frame HF3.out fun _ _ => id).mono fun q _ hq => ⟨hq.1, Nat.lt_of_lt_of_le hq.2.1 HF3.out.size, hq.2.2.1, HF3.out.soft hq.2.1 id hq.2.2.2⟩, r⟩) (v' := .slice (some ⟨g, 0, none⟩) (k + 1) cp) (by rw [HL.out]; exact ho4) hf4 hn4' (((HV2.out.soft HF32.out fun _ _ => id).mono fun q hq hq2 => hD q hq hq2)) rfl
      have hat : NodeAt (fun b => W.heap.size ≤ b) W.heap.size w2 y (.slice a9 y.v.l.length c9) (.slice a2 y.l.length c2) := HYS.out
      have hrn := NRo.snoc (m := wr.heap.size) (x := y) (u := #[.int .i64 y.op, .int .i64 y.ln, .string y.s, .int .i64 y.v.k, .int .i64 y.v.n, .string y.v.s, .slice a9 y.v.l.length c9, .slice a2 y.l.length c2]) (v := u3) (v' := .slice (some ⟨g, 0, none⟩) (k + 1) cp) HOW.out.1 rfl HF3.out.size (HRO.out.frame HF3.out (Nat.le_refl _)) hf4 hn4' ((hat.frame HF32.out fun _ _ => id).to (by have := HFr.out.size; have := HWS.out; omega) fun r hr _ _ => ⟨fun e => by
          have h2 := (HW.out.lt r e).2
          have := HWS.out; omega, by have := HWS.out; omega⟩)
      have hO4 : COwn w.heap.size w4 (l.take (k + 1)) (.slice (some ⟨g, 0, none⟩) (k + 1) cp) := by
        rw [HT.out]
        exact ⟨_, hsn.1, hsn.2, hrn⟩
      have hf5 : Fr (fun _ => False) w w4 := (HFr.out.trans' HF3.out).trans hf4 (fun _ _ => id) (fun q hq e => by have h1 := (HW.out.lt q e.symm).1; omega)
      clear ho4 hf4 hn4 hn4' hsn hrn hD hat
      have HO4 := hid hO4; have HF5 := hid hf5
      clear hO4 hf5
      go_wp2_with fail
      go_roundw
      case rel => exact ⟨k + 1, by omega, by go_num, HO4.out, HF5.out⟩
      case measure => simp [intOf]; omega
    · have hkl : l.take k = l := List.take_of_length_le (by omega)
      rw [hkl] at hO
      have HVL := hid hO; have HFr := hid hf
      obtain ⟨xs, ho, -⟩ := hO
      obtain ⟨av, cv, rfl, -⟩ := own_len ho
      clear hkl hf ho
      go_wp2_with fail
      go_ret
      exact ⟨_, rfl, HFr.out, HVL.out⟩
set_option maxRecDepth 100000 in
set_option maxHeartbeats 1000000 in
theorem node_of (N : Nat) (ih : NodeTo N) : NodeTo (N + 1) := by
  intro x hN hM D w u h
  have hs := Nd.sz_eq x
  obtain ⟨va, v, rfl, hX, hL⟩ := h.open
  have hcall := clone_of N ih x.l (by omega) (by omega) D
  obtain ⟨a1, c1, us1, rfl, -⟩ := id hX
  obtain ⟨a, cap, us, rfl, -⟩ := id hL
  have hval := fun w2 u => vclone_any x.v.size x.v (Nat.le_refl _) (by omega) D w2 u
  have hxv : VIn D w x.v #[.int .i64 x.v.k, .int .i64 x.v.n, .string x.v.s, .slice a1 x.v.l.length c1] := by
    have := hX.close x.v.k x.v.n x.v.s
    have e : x.v = .mk x.v.k x.v.n x.v.s x.v.l := by cases x.v; rfl
    rw [← e] at this; exact this
  have hopn : ∀ (E : Nat → Prop) (w' : World) (u' : Array Value), VIn E w' x.v u' → ∃ a8 c8, u' = #[.int .i64 x.v.k, .int .i64 x.v.n, .string x.v.s, .slice a8 x.v.l.length c8] ∧ VL E w' x.v.l (.slice a8 x.v.l.length c8) := fun E w' u' h => by
    obtain ⟨v', rfl, hl'⟩ := h.open
    obtain ⟨a8, c8, us8, rfl, h8⟩ := id hl'
    exact ⟨a8, c8, rfl, hl'⟩
  have hclose : ∀ (E : Nat → Prop) (w' : World) (va' la' : Value), VL E w' x.v.l va' → NL E w' x.l la' → NIn E w' x #[.int .i64 x.op, .int .i64 x.ln, .string x.s, .int .i64 x.v.k, .int .i64 x.v.n, .string x.v.s, va', la'] := fun E w' va' la' h1 h2 => by
    have := h2.close x.op x.ln x.s x.v h1
    have e : x = .mk x.op x.ln x.s x.v x.l := by cases x; rfl
    rw [← e] at this; exact this
  have HV := hid hval; have HX := hid hxv; have HOP := hid hopn; have HCL := hid hclose
  clear hval hxv hX hopn hclose hs
  generalize x.op = oo at *
  generalize x.ln = nn at *
  generalize x.s = ss at *
  generalize x.v.k = vk at *
  generalize x.v.n = vn at *
  generalize x.v.s = vs at *
  generalize x.v.l = vll at *
  generalize vll.length = vl at *
  generalize x.l = l at *
  have HL := hid hL; have HC := hid hcall
  clear hL hcall hN hM h
  go_enter Tryd.func67, Tryd.ntmps67
  go_upto_region 1 with fail
  have hb1 : ((w.alloc (.cells #[.int .i64 oo, .int .i64 nn, .string ss, .int .i64 vk, .int .i64 vn, .string vs, .slice a1 vl c1, .slice a l.length cap] 36)).alloc (.cells #[.int .i64 0, .int .i64 0, .string ⟨#[]⟩, .int .i64 0, .int .i64 0, .string ⟨#[]⟩, .slice none 0 0, .slice none 0 0] 36)).heap[w.heap.size]? = some (.cells #[.int .i64 oo, .int .i64 nn, .string ss, .int .i64 vk, .int .i64 vn, .string vs, .slice a1 vl c1, .slice a l.length cap] 36) := ((Fr.refl (fun _ => False) _).alloc _).heap (heap_alloc_new w _) not_false
  have hb2 : ((w.alloc (.cells #[.int .i64 oo, .int .i64 nn, .string ss, .int .i64 vk, .int .i64 vn, .string vs, .slice a1 vl c1, .slice a l.length cap] 36)).alloc (.cells #[.int .i64 0, .int .i64 0, .string ⟨#[]⟩, .int .i64 0, .int .i64 0, .string ⟨#[]⟩, .slice none 0 0, .slice none 0 0] 36)).heap[w.heap.size + 1]? = some (.cells #[.int .i64 0, .int .i64 0, .string ⟨#[]⟩, .int .i64 0, .int .i64 0, .string ⟨#[]⟩, .slice none 0 0, .slice none 0 0] 36) := by
    have := heap_alloc_new (w.alloc (.cells #[.int .i64 oo, .int .i64 nn, .string ss, .int .i64 vk, .int .i64 vn, .string vs, .slice a1 vl c1, .slice a l.length cap] 36)) (.cells #[.int .i64 0, .int .i64 0, .string ⟨#[]⟩, .int .i64 0, .int .i64 0, .string ⟨#[]⟩, .slice none 0 0, .slice none 0 0] 36)
    simpa using this
  have hF : Fr (fun _ => False) w ((w.alloc (.cells #[.int .i64 oo, .int .i64 nn, .string ss, .int .i64 vk, .int .i64 vn, .string vs, .slice a1 vl c1, .slice a l.length cap] 36)).alloc (.cells #[.int .i64 0, .int .i64 0, .string ⟨#[]⟩, .int .i64 0, .int .i64 0, .string ⟨#[]⟩, .slice none 0 0, .slice none 0 0] 36)) := ((Fr.refl _ _).alloc _).alloc _
  have hsz : ((w.alloc (.cells #[.int .i64 oo, .int .i64 nn, .string ss, .int .i64 vk, .int .i64 vn, .string vs, .slice a1 vl c1, .slice a l.length cap] 36)).alloc (.cells #[.int .i64 0, .int .i64 0, .string ⟨#[]⟩, .int .i64 0, .int .i64 0, .string ⟨#[]⟩, .slice none 0 0, .slice none 0 0] 36)).heap.size = w.heap.size + 2 := by simp
  generalize (w.alloc (.cells #[.int .i64 oo, .int .i64 nn, .string ss, .int .i64 vk, .int .i64 vn, .string vs, .slice a1 vl c1, .slice a l.length cap] 36)).alloc (.cells #[.int .i64 0, .int .i64 0, .string ⟨#[]⟩, .int .i64 0, .int .i64 0, .string ⟨#[]⟩, .slice none 0 0, .slice none 0 0] 36) = W at *
  have c0 : W.cell? ⟨w.heap.size, 0, none⟩ = some (.int .i64 oo) := by rw [cell_of_row _ _ 0 _ _ _ hb1]; rfl
  have c1' : W.cell? ⟨w.heap.size, 1, none⟩ = some (.int .i64 nn) := by rw [cell_of_row _ _ 1 _ _ _ hb1]; rfl
  have c2 : W.cell? ⟨w.heap.size, 2, none⟩ = some (.string ss) := by rw [cell_of_row _ _ 2 _ _ _ hb1]; rfl
  have c3 : W.cell? ⟨w.heap.size, 3, none⟩ = some (.int .i64 vk) := by rw [cell_of_row _ _ 3 _ _ _ hb1]; rfl
  have c4 : W.cell? ⟨w.heap.size, 4, none⟩ = some (.int .i64 vn) := by rw [cell_of_row _ _ 4 _ _ _ hb1]; rfl
  have c5 : W.cell? ⟨w.heap.size, 5, none⟩ = some (.string vs) := by rw [cell_of_row _ _ 5 _ _ _ hb1]; rfl
  have c6 : W.cell? ⟨w.heap.size, 6, none⟩ = some (.slice a1 vl c1) := by rw [cell_of_row _ _ 6 _ _ _ hb1]; rfl
  have c7 : W.cell? ⟨w.heap.size, 7, none⟩ = some (.slice a l.length cap) := by rw [cell_of_row _ _ 7 _ _ _ hb1]; rfl
  have H1 := hid hb1; have H2 := hid hb2; have HF := hid hF; have HZ := hid hsz
  clear hb1 hb2 hF hsz
  refine wpF_begin [0, 3, 6, 8] (fun _ => True) (by kernel_rfl) ?_
  (refine wpF_take (i := 0) ?_ (by kernel_rfl) (fun _ _ d _ _ h => by cases d <;> exact h) (by kernel_rfl) rfl (by kernel_rfl) (trivial) ?_ ?_; rotate_left; (· intro w' hS; go_simp; try with_reducible rfl); (try simp only [Act.put, List.setIfInBounds_toArray, List.set_cons_zero, List.set_cons_succ]))
  (refine wpF_take (i := 3) ?_ (by kernel_rfl) (fun _ _ d _ _ h => by cases d <;> exact h) (by kernel_rfl) rfl (by kernel_rfl) (trivial) ?_ ?_; rotate_left; (· intro w' hS; go_simp; try with_reducible rfl); (try simp only [Act.put, List.setIfInBounds_toArray, List.set_cons_zero, List.set_cons_succ]))
  refine wpF_run2 (i := 1) (j := 4) (by kernel_rfl) rfl rfl (by kernel_rfl) (by kernel_rfl) (fun K hK => ?_) (fun K hK => ?_)
  · go_simp
    refine hK _ _ trivial ?_
    clear hK K
    try simp only [Act.put, List.setIfInBounds_toArray, List.set_cons_zero, List.set_cons_succ]
    refine wpF_run2 (i := 2) (j := 4) (by kernel_rfl) rfl rfl (by kernel_rfl) (by kernel_rfl) (fun K hK => ?_) (fun K hK => ?_)
    · go_simp
      refine (HV.out W.drew _ (HX.out.frame HF.out.drew fun _ _ => id)).mono ?_
      rintro e w2 ⟨u8, rfl, hf2, hv2, -⟩
      obtain ⟨a8, c8, rfl, hl8⟩ := HOP.out _ _ _ hv2
      have HF2 := hid (HF.out.drew.trans' hf2); have HL8 := hid hl8; have HS2 := hid hf2.size; have HX2 := hid (hf2.heap (show W.drew.heap[w.heap.size]? = _ from H1.out) not_false); have HR2 := hid (hf2.heap (show W.drew.heap[w.heap.size + 1]? = _ from H2.out) not_false)
      clear hv2 hl8
      refine hK _ _ trivial ?_
      clear hK K
      try simp only [Act.put, List.setIfInBounds_toArray, List.set_cons_zero, List.set_cons_succ]
      have d7 := hf2.cell (show W.drew.cell? _ = _ from c7) not_false
      (refine wpF_run (i := 4) (by kernel_rfl) rfl (by kernel_rfl) (fun K hK => ?_); go_simp; refine hK _ _ (trivial) ?_; clear hK K; (try simp only [Act.put, List.setIfInBounds_toArray, List.set_cons_zero, List.set_cons_succ]))
      clear d7
      (refine wpF_take (i := 6) ?_ (by kernel_rfl) (fun _ _ d _ _ h => by cases d <;> exact h) (by kernel_rfl) rfl (by kernel_rfl) (trivial) ?_ ?_; rotate_left; (· intro w' hS; go_simp; try with_reducible rfl); (try simp only [Act.put, List.setIfInBounds_toArray, List.set_cons_zero, List.set_cons_succ]))
      refine wpF_run (i := 5) (by kernel_rfl) rfl (by kernel_rfl) (fun K hK => ?_); go_simp
      refine (HC.out w2 _ (HL.out.frame HF2.out fun _ _ => id)).mono ?_
      rintro e w3 ⟨v', rfl, hf3, hv'⟩
      have hcl := hv'.own.close
      have hxx := hv'.own.x
      obtain ⟨xs, hxo, -⟩ := hv'
      obtain ⟨a9, c9, rfl, -⟩ := own_len hxo
      have HXO := hid hxx; have HCLO := hid hcl; have HOB := hid (fun r e => (hxo.lt r e).1)
      have HF3 := hid (HF2.out.trans' hf3); have HFF := hid hf3; have HS3 := hid hf3.size; have HX3 := hid (hf3.heap HX2.out not_false); have HZ3 := hid (hf3.heap HR2.out not_false)
      clear hf3 hxo hcl hf2 hxx
      refine hK _ _ trivial ?_
      clear hK K
      try simp only [Act.put, List.setIfInBounds_toArray, List.set_cons_zero, List.set_cons_succ]
      have z0 : w3.cell? ⟨w.heap.size, 0, none⟩ = some (.int .i64 oo) := by rw [cell_of_row _ _ 0 _ _ _ HX3.out]; rfl
      have z1 : w3.cell? ⟨w.heap.size, 1, none⟩ = some (.int .i64 nn) := by rw [cell_of_row _ _ 1 _ _ _ HX3.out]; rfl
      have z2 : w3.cell? ⟨w.heap.size, 2, none⟩ = some (.string ss) := by rw [cell_of_row _ _ 2 _ _ _ HX3.out]; rfl
      have z3 : w3.cell? ⟨w.heap.size, 3, none⟩ = some (.int .i64 vk) := by rw [cell_of_row _ _ 3 _ _ _ HX3.out]; rfl
      have z4 : w3.cell? ⟨w.heap.size, 4, none⟩ = some (.int .i64 vn) := by rw [cell_of_row _ _ 4 _ _ _ HX3.out]; rfl
      have z5 : w3.cell? ⟨w.heap.size, 5, none⟩ = some (.string vs) := by rw [cell_of_row _ _ 5 _ _ _ HX3.out]; rfl
      have z6 : w3.cell? ⟨w.heap.size, 6, none⟩ = some (.slice a1 vl c1) := by rw [cell_of_row _ _ 6 _ _ _ HX3.out]; rfl
      have z7 : w3.cell? ⟨w.heap.size, 7, none⟩ = some (.slice a l.length cap) := by rw [cell_of_row _ _ 7 _ _ _ HX3.out]; rfl
      have fz : ∀ i, w3.frozen? ⟨w.heap.size, i, none⟩ = false := fun i => frozen_of_row _ _ i _ _ HX3.out
      (refine wpF_run (i := 7) (by kernel_rfl) rfl (by kernel_rfl) (fun K hK => ?_); go_simp; refine hK _ _ (trivial) ?_; clear hK K; (try simp only [Act.put, List.setIfInBounds_toArray, List.set_cons_zero, List.set_cons_succ]))
      (refine wpF_take (i := 8) ?_ (by kernel_rfl) (fun _ _ d _ _ h => by cases d <;> exact h) (by kernel_rfl) rfl (by kernel_rfl) (trivial) ?_ ?_; rotate_left; (· intro w' hS; go_simp; try with_reducible rfl); (try simp only [Act.put, List.setIfInBounds_toArray, List.set_cons_zero, List.set_cons_succ]))
      (refine wpF_run (i := 9) (by kernel_rfl) rfl (by kernel_rfl) (fun K hK => ?_); go_simp; refine hK _ _ (trivial) ?_; clear hK K; (try simp only [Act.put, List.setIfInBounds_toArray, List.set_cons_zero, List.set_cons_succ]))
      refine wpF_end (by kernel_rfl) ?_
      have hRN := (setCell_row 7 (.slice a9 l.length c9) (setCell_row 6 (.slice a8 vl c8) (setCell_row 5 (.string vs) (setCell_row 4 (.int .i64 vn) (setCell_row 3 (.int .i64 vk) HX3.out)))))
      simp only [List.setIfInBounds_toArray, List.set_cons_zero, List.set_cons_succ] at hRN
      have hfN : Fr (fun q => q = w.heap.size) w3 (((((w3.setCell ⟨w.heap.size, 3, none⟩ (.int .i64 vk)).setCell ⟨w.heap.size, 4, none⟩ (.int .i64 vn)).setCell ⟨w.heap.size, 5, none⟩ (.string vs)).setCell ⟨w.heap.size, 6, none⟩ (.slice a8 vl c8)).setCell ⟨w.heap.size, 7, none⟩ (.slice a9 l.length c9)) := ((((((Fr.refl (fun q => q = w.heap.size) w3).setCell (p := ⟨w.heap.size, 3, none⟩) (.inl rfl) (.int .i64 vk)).setCell (p := ⟨w.heap.size, 4, none⟩) (.inl rfl) (.int .i64 vn)).setCell (p := ⟨w.heap.size, 5, none⟩) (.inl rfl) (.string vs)).setCell (p := ⟨w.heap.size, 6, none⟩) (.inl rfl) (.slice a8 vl c8)).setCell (p := ⟨w.heap.size, 7, none⟩) (.inl rfl) (.slice a9 l.length c9))
      have HZ4 := hid (hfN.heap HZ3.out (by omega))
      clear z0 z1 z2 z3 z4 z5 z6 z7 fz c0 c1' c2 c3 c4 c5 c6 c7
      generalize hw4 : (((((w3.setCell ⟨w.heap.size, 3, none⟩ (.int .i64 vk)).setCell ⟨w.heap.size, 4, none⟩ (.int .i64 vn)).setCell ⟨w.heap.size, 5, none⟩ (.string vs)).setCell ⟨w.heap.size, 6, none⟩ (.slice a8 vl c8)).setCell ⟨w.heap.size, 7, none⟩ (.slice a9 l.length c9)) = w4 at *
      clear hw4
      have HRN := hid hRN; have HFN := hid hfN
      clear hRN hfN
      have d0 : w4.cell? ⟨w.heap.size, 0, none⟩ = some (.int .i64 oo) := by rw [cell_of_row _ _ 0 _ _ _ HRN.out]; rfl
      have d1 : w4.cell? ⟨w.heap.size, 1, none⟩ = some (.int .i64 nn) := by rw [cell_of_row _ _ 1 _ _ _ HRN.out]; rfl
      have d2 : w4.cell? ⟨w.heap.size, 2, none⟩ = some (.string ss) := by rw [cell_of_row _ _ 2 _ _ _ HRN.out]; rfl
      have d3 : w4.cell? ⟨w.heap.size, 3, none⟩ = some (.int .i64 vk) := by rw [cell_of_row _ _ 3 _ _ _ HRN.out]; rfl
      have d4 : w4.cell? ⟨w.heap.size, 4, none⟩ = some (.int .i64 vn) := by rw [cell_of_row _ _ 4 _ _ _ HRN.out]; rfl
      have d5 : w4.cell? ⟨w.heap.size, 5, none⟩ = some (.string vs) := by rw [cell_of_row _ _ 5 _ _ _ HRN.out]; rfl
      have d6 : w4.cell? ⟨w.heap.size, 6, none⟩ = some (.slice a8 vl c8) := by rw [cell_of_row _ _ 6 _ _ _ HRN.out]; rfl
      have d7 : w4.cell? ⟨w.heap.size, 7, none⟩ = some (.slice a9 l.length c9) := by rw [cell_of_row _ _ 7 _ _ _ HRN.out]; rfl
      have e0 : w4.cell? ⟨(w.heap.size + 1), 0, none⟩ = some (.int .i64 0) := by rw [cell_of_row _ _ 0 _ _ _ HZ4.out]; rfl
      have e1 : w4.cell? ⟨(w.heap.size + 1), 1, none⟩ = some (.int .i64 0) := by rw [cell_of_row _ _ 1 _ _ _ HZ4.out]; rfl
      have e2 : w4.cell? ⟨(w.heap.size + 1), 2, none⟩ = some (.string ⟨#[]⟩) := by rw [cell_of_row _ _ 2 _ _ _ HZ4.out]; rfl
      have e3 : w4.cell? ⟨(w.heap.size + 1), 3, none⟩ = some (.int .i64 0) := by rw [cell_of_row _ _ 3 _ _ _ HZ4.out]; rfl
      have e4 : w4.cell? ⟨(w.heap.size + 1), 4, none⟩ = some (.int .i64 0) := by rw [cell_of_row _ _ 4 _ _ _ HZ4.out]; rfl
      have e5 : w4.cell? ⟨(w.heap.size + 1), 5, none⟩ = some (.string ⟨#[]⟩) := by rw [cell_of_row _ _ 5 _ _ _ HZ4.out]; rfl
      have e6 : w4.cell? ⟨(w.heap.size + 1), 6, none⟩ = some (.slice none 0 0) := by rw [cell_of_row _ _ 6 _ _ _ HZ4.out]; rfl
      have e7 : w4.cell? ⟨(w.heap.size + 1), 7, none⟩ = some (.slice none 0 0) := by rw [cell_of_row _ _ 7 _ _ _ HZ4.out]; rfl
      have fe : ∀ i, w4.frozen? ⟨w.heap.size + 1, i, none⟩ = false := fun i => frozen_of_row _ _ i _ _ HZ4.out
      go_wp2_with fail
      have hR := (setCell_row 7 (.slice a9 l.length c9) (setCell_row 6 (.slice a8 vl c8) (setCell_row 5 (.string vs) (setCell_row 4 (.int .i64 vn) (setCell_row 3 (.int .i64 vk) (setCell_row 2 (.string ss) (setCell_row 1 (.int .i64 nn) (setCell_row 0 (.int .i64 oo) HZ4.out))))))))
      simp only [List.setIfInBounds_toArray, List.set_cons_zero, List.set_cons_succ] at hR
      have hf8 : Fr (fun q => q = w.heap.size + 1) w4 ((((((((w4.setCell ⟨w.heap.size + 1, 0, none⟩ (.int .i64 oo)).setCell ⟨w.heap.size + 1, 1, none⟩ (.int .i64 nn)).setCell ⟨w.heap.size + 1, 2, none⟩ (.string ss)).setCell ⟨w.heap.size + 1, 3, none⟩ (.int .i64 vk)).setCell ⟨w.heap.size + 1, 4, none⟩ (.int .i64 vn)).setCell ⟨w.heap.size + 1, 5, none⟩ (.string vs)).setCell ⟨w.heap.size + 1, 6, none⟩ (.slice a8 vl c8)).setCell ⟨w.heap.size + 1, 7, none⟩ (.slice a9 l.length c9)) := (((((((((Fr.refl (fun q => q = w.heap.size + 1) w4).setCell (p := ⟨w.heap.size + 1, 0, none⟩) (.inl rfl) (.int .i64 oo)).setCell (p := ⟨w.heap.size + 1, 1, none⟩) (.inl rfl) (.int .i64 nn)).setCell (p := ⟨w.heap.size + 1, 2, none⟩) (.inl rfl) (.string ss)).setCell (p := ⟨w.heap.size + 1, 3, none⟩) (.inl rfl) (.int .i64 vk)).setCell (p := ⟨w.heap.size + 1, 4, none⟩) (.inl rfl) (.int .i64 vn)).setCell (p := ⟨w.heap.size + 1, 5, none⟩) (.inl rfl) (.string vs)).setCell (p := ⟨w.heap.size + 1, 6, none⟩) (.inl rfl) (.slice a8 vl c8)).setCell (p := ⟨w.heap.size + 1, 7, none⟩) (.inl rfl) (.slice a9 l.length c9))
      refine bodyPost_ret (results_cell_row rfl _ _ (w.heap.size + 1) _ _ _ _ rfl hR Tryd.underlying36 rfl (by kernel_rfl)) rfl ?_
      have hf48 := HFN.out.trans hf8 (U := fun q => q = w.heap.size ∨ q = w.heap.size + 1) (fun _ _ h => .inl h) (fun q hq e => .inr e)
      have hWs := HZ.out
      have hv3 : VL (fun b => W.heap.size ≤ b ∧ Soft w3 b) w3 _ _ := HL8.out.softL HFF.out (fun _ _ h => h)
      have hn3 : NL (fun b => W.heap.size ≤ b ∧ Soft w3 b) w3 _ _ := HCLO.out.mono fun k _ hk => ⟨Nat.le_trans HS2.out hk.1, hk.2⟩
      have hw2s : W.heap.size ≤ w2.heap.size := HS2.out
      refine ⟨_, rfl, HF3.out.trans hf48 (fun _ _ => id) (fun q hq e => by omega), ((HCL.out _ _ _ _ hv3 hn3).soft hf48 (fun q hq e => by have h1 : W.heap.size ≤ q := hq; omega)).mono fun q _ hq => ⟨by have h1 : W.heap.size ≤ q := hq.1; omega, hq.2⟩, ?_⟩
      refine ⟨((HXO.out.to (B := fun b => w2.heap.size ≤ b) (Nat.le_refl _) fun b hb _ _ => hb).frame hf48 fun b hb e => by omega).to (by omega) fun b _ _ hb => by have h1 : w2.heap.size ≤ b := hb; omega, ?_⟩
      exact (((HL8.out.mono (E := fun b => W.heap.size ≤ b ∧ b < w2.heap.size) fun k hk h => ⟨h.1, hk⟩).frame HFF.out (fun _ _ => id)).frame hf48 (fun b hb e => by have := hb.1; omega)).mono fun k _ hk => ⟨by have := hk.1; omega, by have := hk.1; omega, fun e => by have h1 := HOB.out k e; have := hk.2; omega⟩
    · go_simp
      refine hK _ _ trivial ?_
      clear hK K
      try simp only [Act.put, List.setIfInBounds_toArray, List.set_cons_zero, List.set_cons_succ]
      refine wpF_run (i := 2) (by kernel_rfl) rfl (by kernel_rfl) (fun K hK => ?_); go_simp
      refine (HV.out W.drew _ (HX.out.frame HF.out.drew fun _ _ => id)).mono ?_
      rintro e w2 ⟨u8, rfl, hf2, hv2, -⟩
      obtain ⟨a8, c8, rfl, hl8⟩ := HOP.out _ _ _ hv2
      have HF2 := hid (HF.out.drew.trans' hf2); have HL8 := hid hl8; have HS2 := hid hf2.size; have HX2 := hid (hf2.heap (show W.drew.heap[w.heap.size]? = _ from H1.out) not_false); have HR2 := hid (hf2.heap (show W.drew.heap[w.heap.size + 1]? = _ from H2.out) not_false)
      clear hv2 hl8
      refine hK _ _ trivial ?_
      clear hK K
      try simp only [Act.put, List.setIfInBounds_toArray, List.set_cons_zero, List.set_cons_succ]
      (refine wpF_take (i := 6) ?_ (by kernel_rfl) (fun _ _ d _ _ h => by cases d <;> exact h) (by kernel_rfl) rfl (by kernel_rfl) (trivial) ?_ ?_; rotate_left; (· intro w' hS; go_simp; try with_reducible rfl); (try simp only [Act.put, List.setIfInBounds_toArray, List.set_cons_zero, List.set_cons_succ]))
      refine wpF_run (i := 5) (by kernel_rfl) rfl (by kernel_rfl) (fun K hK => ?_); go_simp
      refine (HC.out w2 _ (HL.out.frame HF2.out fun _ _ => id)).mono ?_
      rintro e w3 ⟨v', rfl, hf3, hv'⟩
      have hcl := hv'.own.close
      have hxx := hv'.own.x
      obtain ⟨xs, hxo, -⟩ := hv'
      obtain ⟨a9, c9, rfl, -⟩ := own_len hxo
      have HXO := hid hxx; have HCLO := hid hcl; have HOB := hid (fun r e => (hxo.lt r e).1)
      have HF3 := hid (HF2.out.trans' hf3); have HFF := hid hf3; have HS3 := hid hf3.size; have HX3 := hid (hf3.heap HX2.out not_false); have HZ3 := hid (hf3.heap HR2.out not_false)
      clear hf3 hxo hcl hf2 hxx
      refine hK _ _ trivial ?_
      clear hK K
      try simp only [Act.put, List.setIfInBounds_toArray, List.set_cons_zero, List.set_cons_succ]
      have z0 : w3.cell? ⟨w.heap.size, 0, none⟩ = some (.int .i64 oo) := by rw [cell_of_row _ _ 0 _ _ _ HX3.out]; rfl
      have z1 : w3.cell? ⟨w.heap.size, 1, none⟩ = some (.int .i64 nn) := by rw [cell_of_row _ _ 1 _ _ _ HX3.out]; rfl
      have z2 : w3.cell? ⟨w.heap.size, 2, none⟩ = some (.string ss) := by rw [cell_of_row _ _ 2 _ _ _ HX3.out]; rfl
      have z3 : w3.cell? ⟨w.heap.size, 3, none⟩ = some (.int .i64 vk) := by rw [cell_of_row _ _ 3 _ _ _ HX3.out]; rfl
      have z4 : w3.cell? ⟨w.heap.size, 4, none⟩ = some (.int .i64 vn) := by rw [cell_of_row _ _ 4 _ _ _ HX3.out]; rfl
      have z5 : w3.cell? ⟨w.heap.size, 5, none⟩ = some (.string vs) := by rw [cell_of_row _ _ 5 _ _ _ HX3.out]; rfl
      have z6 : w3.cell? ⟨w.heap.size, 6, none⟩ = some (.slice a1 vl c1) := by rw [cell_of_row _ _ 6 _ _ _ HX3.out]; rfl
      have z7 : w3.cell? ⟨w.heap.size, 7, none⟩ = some (.slice a l.length cap) := by rw [cell_of_row _ _ 7 _ _ _ HX3.out]; rfl
      have fz : ∀ i, w3.frozen? ⟨w.heap.size, i, none⟩ = false := fun i => frozen_of_row _ _ i _ _ HX3.out
      (refine wpF_run (i := 7) (by kernel_rfl) rfl (by kernel_rfl) (fun K hK => ?_); go_simp; refine hK _ _ (trivial) ?_; clear hK K; (try simp only [Act.put, List.setIfInBounds_toArray, List.set_cons_zero, List.set_cons_succ]))
      (refine wpF_take (i := 8) ?_ (by kernel_rfl) (fun _ _ d _ _ h => by cases d <;> exact h) (by kernel_rfl) rfl (by kernel_rfl) (trivial) ?_ ?_; rotate_left; (· intro w' hS; go_simp; try with_reducible rfl); (try simp only [Act.put, List.setIfInBounds_toArray, List.set_cons_zero, List.set_cons_succ]))
      (refine wpF_run (i := 9) (by kernel_rfl) rfl (by kernel_rfl) (fun K hK => ?_); go_simp; refine hK _ _ (trivial) ?_; clear hK K; (try simp only [Act.put, List.setIfInBounds_toArray, List.set_cons_zero, List.set_cons_succ]))
      refine wpF_end (by kernel_rfl) ?_
      have hRN := (setCell_row 7 (.slice a9 l.length c9) (setCell_row 6 (.slice a8 vl c8) (setCell_row 5 (.string vs) (setCell_row 4 (.int .i64 vn) (setCell_row 3 (.int .i64 vk) HX3.out)))))
      simp only [List.setIfInBounds_toArray, List.set_cons_zero, List.set_cons_succ] at hRN
      have hfN : Fr (fun q => q = w.heap.size) w3 (((((w3.setCell ⟨w.heap.size, 3, none⟩ (.int .i64 vk)).setCell ⟨w.heap.size, 4, none⟩ (.int .i64 vn)).setCell ⟨w.heap.size, 5, none⟩ (.string vs)).setCell ⟨w.heap.size, 6, none⟩ (.slice a8 vl c8)).setCell ⟨w.heap.size, 7, none⟩ (.slice a9 l.length c9)) := ((((((Fr.refl (fun q => q = w.heap.size) w3).setCell (p := ⟨w.heap.size, 3, none⟩) (.inl rfl) (.int .i64 vk)).setCell (p := ⟨w.heap.size, 4, none⟩) (.inl rfl) (.int .i64 vn)).setCell (p := ⟨w.heap.size, 5, none⟩) (.inl rfl) (.string vs)).setCell (p := ⟨w.heap.size, 6, none⟩) (.inl rfl) (.slice a8 vl c8)).setCell (p := ⟨w.heap.size, 7, none⟩) (.inl rfl) (.slice a9 l.length c9))
      have HZ4 := hid (hfN.heap HZ3.out (by omega))
      clear z0 z1 z2 z3 z4 z5 z6 z7 fz c0 c1' c2 c3 c4 c5 c6 c7
      generalize hw4 : (((((w3.setCell ⟨w.heap.size, 3, none⟩ (.int .i64 vk)).setCell ⟨w.heap.size, 4, none⟩ (.int .i64 vn)).setCell ⟨w.heap.size, 5, none⟩ (.string vs)).setCell ⟨w.heap.size, 6, none⟩ (.slice a8 vl c8)).setCell ⟨w.heap.size, 7, none⟩ (.slice a9 l.length c9)) = w4 at *
      clear hw4
      have HRN := hid hRN; have HFN := hid hfN
      clear hRN hfN
      have d0 : w4.cell? ⟨w.heap.size, 0, none⟩ = some (.int .i64 oo) := by rw [cell_of_row _ _ 0 _ _ _ HRN.out]; rfl
      have d1 : w4.cell? ⟨w.heap.size, 1, none⟩ = some (.int .i64 nn) := by rw [cell_of_row _ _ 1 _ _ _ HRN.out]; rfl
      have d2 : w4.cell? ⟨w.heap.size, 2, none⟩ = some (.string ss) := by rw [cell_of_row _ _ 2 _ _ _ HRN.out]; rfl
      have d3 : w4.cell? ⟨w.heap.size, 3, none⟩ = some (.int .i64 vk) := by rw [cell_of_row _ _ 3 _ _ _ HRN.out]; rfl
      have d4 : w4.cell? ⟨w.heap.size, 4, none⟩ = some (.int .i64 vn) := by rw [cell_of_row _ _ 4 _ _ _ HRN.out]; rfl
      have d5 : w4.cell? ⟨w.heap.size, 5, none⟩ = some (.string vs) := by rw [cell_of_row _ _ 5 _ _ _ HRN.out]; rfl
      have d6 : w4.cell? ⟨w.heap.size, 6, none⟩ = some (.slice a8 vl c8) := by rw [cell_of_row _ _ 6 _ _ _ HRN.out]; rfl
      have d7 : w4.cell? ⟨w.heap.size, 7, none⟩ = some (.slice a9 l.length c9) := by rw [cell_of_row _ _ 7 _ _ _ HRN.out]; rfl
      have e0 : w4.cell? ⟨(w.heap.size + 1), 0, none⟩ = some (.int .i64 0) := by rw [cell_of_row _ _ 0 _ _ _ HZ4.out]; rfl
      have e1 : w4.cell? ⟨(w.heap.size + 1), 1, none⟩ = some (.int .i64 0) := by rw [cell_of_row _ _ 1 _ _ _ HZ4.out]; rfl
      have e2 : w4.cell? ⟨(w.heap.size + 1), 2, none⟩ = some (.string ⟨#[]⟩) := by rw [cell_of_row _ _ 2 _ _ _ HZ4.out]; rfl
      have e3 : w4.cell? ⟨(w.heap.size + 1), 3, none⟩ = some (.int .i64 0) := by rw [cell_of_row _ _ 3 _ _ _ HZ4.out]; rfl
      have e4 : w4.cell? ⟨(w.heap.size + 1), 4, none⟩ = some (.int .i64 0) := by rw [cell_of_row _ _ 4 _ _ _ HZ4.out]; rfl
      have e5 : w4.cell? ⟨(w.heap.size + 1), 5, none⟩ = some (.string ⟨#[]⟩) := by rw [cell_of_row _ _ 5 _ _ _ HZ4.out]; rfl
      have e6 : w4.cell? ⟨(w.heap.size + 1), 6, none⟩ = some (.slice none 0 0) := by rw [cell_of_row _ _ 6 _ _ _ HZ4.out]; rfl
      have e7 : w4.cell? ⟨(w.heap.size + 1), 7, none⟩ = some (.slice none 0 0) := by rw [cell_of_row _ _ 7 _ _ _ HZ4.out]; rfl
      have fe : ∀ i, w4.frozen? ⟨w.heap.size + 1, i, none⟩ = false := fun i => frozen_of_row _ _ i _ _ HZ4.out
      go_wp2_with fail
      have hR := (setCell_row 7 (.slice a9 l.length c9) (setCell_row 6 (.slice a8 vl c8) (setCell_row 5 (.string vs) (setCell_row 4 (.int .i64 vn) (setCell_row 3 (.int .i64 vk) (setCell_row 2 (.string ss) (setCell_row 1 (.int .i64 nn) (setCell_row 0 (.int .i64 oo) HZ4.out))))))))
      simp only [List.setIfInBounds_toArray, List.set_cons_zero, List.set_cons_succ] at hR
      have hf8 : Fr (fun q => q = w.heap.size + 1) w4 ((((((((w4.setCell ⟨w.heap.size + 1, 0, none⟩ (.int .i64 oo)).setCell ⟨w.heap.size + 1, 1, none⟩ (.int .i64 nn)).setCell ⟨w.heap.size + 1, 2, none⟩ (.string ss)).setCell ⟨w.heap.size + 1, 3, none⟩ (.int .i64 vk)).setCell ⟨w.heap.size + 1, 4, none⟩ (.int .i64 vn)).setCell ⟨w.heap.size + 1, 5, none⟩ (.string vs)).setCell ⟨w.heap.size + 1, 6, none⟩ (.slice a8 vl c8)).setCell ⟨w.heap.size + 1, 7, none⟩ (.slice a9 l.length c9)) := (((((((((Fr.refl (fun q => q = w.heap.size + 1) w4).setCell (p := ⟨w.heap.size + 1, 0, none⟩) (.inl rfl) (.int .i64 oo)).setCell (p := ⟨w.heap.size + 1, 1, none⟩) (.inl rfl) (.int .i64 nn)).setCell (p := ⟨w.heap.size + 1, 2, none⟩) (.inl rfl) (.string ss)).setCell (p := ⟨w.heap.size + 1, 3, none⟩) (.inl rfl) (.int .i64 vk)).setCell (p := ⟨w.heap.size + 1, 4, none⟩) (.inl rfl) (.int .i64 vn)).setCell (p := ⟨w.heap.size + 1, 5, none⟩) (.inl rfl) (.string vs)).setCell (p := ⟨w.heap.size + 1, 6, none⟩) (.inl rfl) (.slice a8 vl c8)).setCell (p := ⟨w.heap.size + 1, 7, none⟩) (.inl rfl) (.slice a9 l.length c9))
      refine bodyPost_ret (results_cell_row rfl _ _ (w.heap.size + 1) _ _ _ _ rfl hR Tryd.underlying36 rfl (by kernel_rfl)) rfl ?_
      have hf48 := HFN.out.trans hf8 (U := fun q => q = w.heap.size ∨ q = w.heap.size + 1) (fun _ _ h => .inl h) (fun q hq e => .inr e)
      have hWs := HZ.out
      have hv3 : VL (fun b => W.heap.size ≤ b ∧ Soft w3 b) w3 _ _ := HL8.out.softL HFF.out (fun _ _ h => h)
      have hn3 : NL (fun b => W.heap.size ≤ b ∧ Soft w3 b) w3 _ _ := HCLO.out.mono fun k _ hk => ⟨Nat.le_trans HS2.out hk.1, hk.2⟩
      have hw2s : W.heap.size ≤ w2.heap.size := HS2.out
      refine ⟨_, rfl, HF3.out.trans hf48 (fun _ _ => id) (fun q hq e => by omega), ((HCL.out _ _ _ _ hv3 hn3).soft hf48 (fun q hq e => by have h1 : W.heap.size ≤ q := hq; omega)).mono fun q _ hq => ⟨by have h1 : W.heap.size ≤ q := hq.1; omega, hq.2⟩, ?_⟩
      refine ⟨((HXO.out.to (B := fun b => w2.heap.size ≤ b) (Nat.le_refl _) fun b hb _ _ => hb).frame hf48 fun b hb e => by omega).to (by omega) fun b _ _ hb => by have h1 : w2.heap.size ≤ b := hb; omega, ?_⟩
      exact (((HL8.out.mono (E := fun b => W.heap.size ≤ b ∧ b < w2.heap.size) fun k hk h => ⟨h.1, hk⟩).frame HFF.out (fun _ _ => id)).frame hf48 (fun b hb e => by have := hb.1; omega)).mono fun k _ hk => ⟨by have := hk.1; omega, by have := hk.1; omega, fun e => by have h1 := HOB.out k e; have := hk.2; omega⟩
  · go_simp
    refine hK _ _ trivial ?_
    clear hK K
    try simp only [Act.put, List.setIfInBounds_toArray, List.set_cons_zero, List.set_cons_succ]
    (refine wpF_run (i := 1) (by kernel_rfl) rfl (by kernel_rfl) (fun K hK => ?_); go_simp; refine hK _ _ (trivial) ?_; clear hK K; (try simp only [Act.put, List.setIfInBounds_toArray, List.set_cons_zero, List.set_cons_succ]))
    refine wpF_run (i := 2) (by kernel_rfl) rfl (by kernel_rfl) (fun K hK => ?_); go_simp
    refine (HV.out W.drew _ (HX.out.frame HF.out.drew fun _ _ => id)).mono ?_
    rintro e w2 ⟨u8, rfl, hf2, hv2, -⟩
    obtain ⟨a8, c8, rfl, hl8⟩ := HOP.out _ _ _ hv2
    have HF2 := hid (HF.out.drew.trans' hf2); have HL8 := hid hl8; have HS2 := hid hf2.size; have HX2 := hid (hf2.heap (show W.drew.heap[w.heap.size]? = _ from H1.out) not_false); have HR2 := hid (hf2.heap (show W.drew.heap[w.heap.size + 1]? = _ from H2.out) not_false)
    clear hv2 hl8
    refine hK _ _ trivial ?_
    clear hK K
    try simp only [Act.put, List.setIfInBounds_toArray, List.set_cons_zero, List.set_cons_succ]
    (refine wpF_take (i := 6) ?_ (by kernel_rfl) (fun _ _ d _ _ h => by cases d <;> exact h) (by kernel_rfl) rfl (by kernel_rfl) (trivial) ?_ ?_; rotate_left; (· intro w' hS; go_simp; try with_reducible rfl); (try simp only [Act.put, List.setIfInBounds_toArray, List.set_cons_zero, List.set_cons_succ]))
    refine wpF_run (i := 5) (by kernel_rfl) rfl (by kernel_rfl) (fun K hK => ?_); go_simp
    refine (HC.out w2 _ (HL.out.frame HF2.out fun _ _ => id)).mono ?_
    rintro e w3 ⟨v', rfl, hf3, hv'⟩
    have hcl := hv'.own.close
    have hxx := hv'.own.x
    obtain ⟨xs, hxo, -⟩ := hv'
    obtain ⟨a9, c9, rfl, -⟩ := own_len hxo
    have HXO := hid hxx; have HCLO := hid hcl; have HOB := hid (fun r e => (hxo.lt r e).1)
    have HF3 := hid (HF2.out.trans' hf3); have HFF := hid hf3; have HS3 := hid hf3.size; have HX3 := hid (hf3.heap HX2.out not_false); have HZ3 := hid (hf3.heap HR2.out not_false)
    clear hf3 hxo hcl hf2 hxx
    refine hK _ _ trivial ?_
    clear hK K
    try simp only [Act.put, List.setIfInBounds_toArray, List.set_cons_zero, List.set_cons_succ]
    have z0 : w3.cell? ⟨w.heap.size, 0, none⟩ = some (.int .i64 oo) := by rw [cell_of_row _ _ 0 _ _ _ HX3.out]; rfl
    have z1 : w3.cell? ⟨w.heap.size, 1, none⟩ = some (.int .i64 nn) := by rw [cell_of_row _ _ 1 _ _ _ HX3.out]; rfl
    have z2 : w3.cell? ⟨w.heap.size, 2, none⟩ = some (.string ss) := by rw [cell_of_row _ _ 2 _ _ _ HX3.out]; rfl
    have z3 : w3.cell? ⟨w.heap.size, 3, none⟩ = some (.int .i64 vk) := by rw [cell_of_row _ _ 3 _ _ _ HX3.out]; rfl
    have z4 : w3.cell? ⟨w.heap.size, 4, none⟩ = some (.int .i64 vn) := by rw [cell_of_row _ _ 4 _ _ _ HX3.out]; rfl
    have z5 : w3.cell? ⟨w.heap.size, 5, none⟩ = some (.string vs) := by rw [cell_of_row _ _ 5 _ _ _ HX3.out]; rfl
    have z6 : w3.cell? ⟨w.heap.size, 6, none⟩ = some (.slice a1 vl c1) := by rw [cell_of_row _ _ 6 _ _ _ HX3.out]; rfl
    have z7 : w3.cell? ⟨w.heap.size, 7, none⟩ = some (.slice a l.length cap) := by rw [cell_of_row _ _ 7 _ _ _ HX3.out]; rfl
    have fz : ∀ i, w3.frozen? ⟨w.heap.size, i, none⟩ = false := fun i => frozen_of_row _ _ i _ _ HX3.out
    (refine wpF_run (i := 7) (by kernel_rfl) rfl (by kernel_rfl) (fun K hK => ?_); go_simp; refine hK _ _ (trivial) ?_; clear hK K; (try simp only [Act.put, List.setIfInBounds_toArray, List.set_cons_zero, List.set_cons_succ]))
    (refine wpF_take (i := 8) ?_ (by kernel_rfl) (fun _ _ d _ _ h => by cases d <;> exact h) (by kernel_rfl) rfl (by kernel_rfl) (trivial) ?_ ?_; rotate_left; (· intro w' hS; go_simp; try with_reducible rfl); (try simp only [Act.put, List.setIfInBounds_toArray, List.set_cons_zero, List.set_cons_succ]))
    (refine wpF_run (i := 9) (by kernel_rfl) rfl (by kernel_rfl) (fun K hK => ?_); go_simp; refine hK _ _ (trivial) ?_; clear hK K; (try simp only [Act.put, List.setIfInBounds_toArray, List.set_cons_zero, List.set_cons_succ]))
    refine wpF_end (by kernel_rfl) ?_
    have hRN := (setCell_row 7 (.slice a9 l.length c9) (setCell_row 6 (.slice a8 vl c8) (setCell_row 5 (.string vs) (setCell_row 4 (.int .i64 vn) (setCell_row 3 (.int .i64 vk) HX3.out)))))
    simp only [List.setIfInBounds_toArray, List.set_cons_zero, List.set_cons_succ] at hRN
    have hfN : Fr (fun q => q = w.heap.size) w3 (((((w3.setCell ⟨w.heap.size, 3, none⟩ (.int .i64 vk)).setCell ⟨w.heap.size, 4, none⟩ (.int .i64 vn)).setCell ⟨w.heap.size, 5, none⟩ (.string vs)).setCell ⟨w.heap.size, 6, none⟩ (.slice a8 vl c8)).setCell ⟨w.heap.size, 7, none⟩ (.slice a9 l.length c9)) := ((((((Fr.refl (fun q => q = w.heap.size) w3).setCell (p := ⟨w.heap.size, 3, none⟩) (.inl rfl) (.int .i64 vk)).setCell (p := ⟨w.heap.size, 4, none⟩) (.inl rfl) (.int .i64 vn)).setCell (p := ⟨w.heap.size, 5, none⟩) (.inl rfl) (.string vs)).setCell (p := ⟨w.heap.size, 6, none⟩) (.inl rfl) (.slice a8 vl c8)).setCell (p := ⟨w.heap.size, 7, none⟩) (.inl rfl) (.slice a9 l.length c9))
    have HZ4 := hid (hfN.heap HZ3.out (by omega))
    clear z0 z1 z2 z3 z4 z5 z6 z7 fz c0 c1' c2 c3 c4 c5 c6 c7
    generalize hw4 : (((((w3.setCell ⟨w.heap.size, 3, none⟩ (.int .i64 vk)).setCell ⟨w.heap.size, 4, none⟩ (.int .i64 vn)).setCell ⟨w.heap.size, 5, none⟩ (.string vs)).setCell ⟨w.heap.size, 6, none⟩ (.slice a8 vl c8)).setCell ⟨w.heap.size, 7, none⟩ (.slice a9 l.length c9)) = w4 at *
    clear hw4
    have HRN := hid hRN; have HFN := hid hfN
    clear hRN hfN
    have d0 : w4.cell? ⟨w.heap.size, 0, none⟩ = some (.int .i64 oo) := by rw [cell_of_row _ _ 0 _ _ _ HRN.out]; rfl
    have d1 : w4.cell? ⟨w.heap.size, 1, none⟩ = some (.int .i64 nn) := by rw [cell_of_row _ _ 1 _ _ _ HRN.out]; rfl
    have d2 : w4.cell? ⟨w.heap.size, 2, none⟩ = some (.string ss) := by rw [cell_of_row _ _ 2 _ _ _ HRN.out]; rfl
    have d3 : w4.cell? ⟨w.heap.size, 3, none⟩ = some (.int .i64 vk) := by rw [cell_of_row _ _ 3 _ _ _ HRN.out]; rfl
    have d4 : w4.cell? ⟨w.heap.size, 4, none⟩ = some (.int .i64 vn) := by rw [cell_of_row _ _ 4 _ _ _ HRN.out]; rfl
    have d5 : w4.cell? ⟨w.heap.size, 5, none⟩ = some (.string vs) := by rw [cell_of_row _ _ 5 _ _ _ HRN.out]; rfl
    have d6 : w4.cell? ⟨w.heap.size, 6, none⟩ = some (.slice a8 vl c8) := by rw [cell_of_row _ _ 6 _ _ _ HRN.out]; rfl
    have d7 : w4.cell? ⟨w.heap.size, 7, none⟩ = some (.slice a9 l.length c9) := by rw [cell_of_row _ _ 7 _ _ _ HRN.out]; rfl
    have e0 : w4.cell? ⟨(w.heap.size + 1), 0, none⟩ = some (.int .i64 0) := by rw [cell_of_row _ _ 0 _ _ _ HZ4.out]; rfl
    have e1 : w4.cell? ⟨(w.heap.size + 1), 1, none⟩ = some (.int .i64 0) := by rw [cell_of_row _ _ 1 _ _ _ HZ4.out]; rfl
    have e2 : w4.cell? ⟨(w.heap.size + 1), 2, none⟩ = some (.string ⟨#[]⟩) := by rw [cell_of_row _ _ 2 _ _ _ HZ4.out]; rfl
    have e3 : w4.cell? ⟨(w.heap.size + 1), 3, none⟩ = some (.int .i64 0) := by rw [cell_of_row _ _ 3 _ _ _ HZ4.out]; rfl
    have e4 : w4.cell? ⟨(w.heap.size + 1), 4, none⟩ = some (.int .i64 0) := by rw [cell_of_row _ _ 4 _ _ _ HZ4.out]; rfl
    have e5 : w4.cell? ⟨(w.heap.size + 1), 5, none⟩ = some (.string ⟨#[]⟩) := by rw [cell_of_row _ _ 5 _ _ _ HZ4.out]; rfl
    have e6 : w4.cell? ⟨(w.heap.size + 1), 6, none⟩ = some (.slice none 0 0) := by rw [cell_of_row _ _ 6 _ _ _ HZ4.out]; rfl
    have e7 : w4.cell? ⟨(w.heap.size + 1), 7, none⟩ = some (.slice none 0 0) := by rw [cell_of_row _ _ 7 _ _ _ HZ4.out]; rfl
    have fe : ∀ i, w4.frozen? ⟨w.heap.size + 1, i, none⟩ = false := fun i => frozen_of_row _ _ i _ _ HZ4.out
    go_wp2_with fail
    have hR := (setCell_row 7 (.slice a9 l.length c9) (setCell_row 6 (.slice a8 vl c8) (setCell_row 5 (.string vs) (setCell_row 4 (.int .i64 vn) (setCell_row 3 (.int .i64 vk) (setCell_row 2 (.string ss) (setCell_row 1 (.int .i64 nn) (setCell_row 0 (.int .i64 oo) HZ4.out))))))))
    simp only [List.setIfInBounds_toArray, List.set_cons_zero, List.set_cons_succ] at hR
    have hf8 : Fr (fun q => q = w.heap.size + 1) w4 ((((((((w4.setCell ⟨w.heap.size + 1, 0, none⟩ (.int .i64 oo)).setCell ⟨w.heap.size + 1, 1, none⟩ (.int .i64 nn)).setCell ⟨w.heap.size + 1, 2, none⟩ (.string ss)).setCell ⟨w.heap.size + 1, 3, none⟩ (.int .i64 vk)).setCell ⟨w.heap.size + 1, 4, none⟩ (.int .i64 vn)).setCell ⟨w.heap.size + 1, 5, none⟩ (.string vs)).setCell ⟨w.heap.size + 1, 6, none⟩ (.slice a8 vl c8)).setCell ⟨w.heap.size + 1, 7, none⟩ (.slice a9 l.length c9)) := (((((((((Fr.refl (fun q => q = w.heap.size + 1) w4).setCell (p := ⟨w.heap.size + 1, 0, none⟩) (.inl rfl) (.int .i64 oo)).setCell (p := ⟨w.heap.size + 1, 1, none⟩) (.inl rfl) (.int .i64 nn)).setCell (p := ⟨w.heap.size + 1, 2, none⟩) (.inl rfl) (.string ss)).setCell (p := ⟨w.heap.size + 1, 3, none⟩) (.inl rfl) (.int .i64 vk)).setCell (p := ⟨w.heap.size + 1, 4, none⟩) (.inl rfl) (.int .i64 vn)).setCell (p := ⟨w.heap.size + 1, 5, none⟩) (.inl rfl) (.string vs)).setCell (p := ⟨w.heap.size + 1, 6, none⟩) (.inl rfl) (.slice a8 vl c8)).setCell (p := ⟨w.heap.size + 1, 7, none⟩) (.inl rfl) (.slice a9 l.length c9))
    refine bodyPost_ret (results_cell_row rfl _ _ (w.heap.size + 1) _ _ _ _ rfl hR Tryd.underlying36 rfl (by kernel_rfl)) rfl ?_
    have hf48 := HFN.out.trans hf8 (U := fun q => q = w.heap.size ∨ q = w.heap.size + 1) (fun _ _ h => .inl h) (fun q hq e => .inr e)
    have hWs := HZ.out
    have hv3 : VL (fun b => W.heap.size ≤ b ∧ Soft w3 b) w3 _ _ := HL8.out.softL HFF.out (fun _ _ h => h)
    have hn3 : NL (fun b => W.heap.size ≤ b ∧ Soft w3 b) w3 _ _ := HCLO.out.mono fun k _ hk => ⟨Nat.le_trans HS2.out hk.1, hk.2⟩
    have hw2s : W.heap.size ≤ w2.heap.size := HS2.out
    refine ⟨_, rfl, HF3.out.trans hf48 (fun _ _ => id) (fun q hq e => by omega), ((HCL.out _ _ _ _ hv3 hn3).soft hf48 (fun q hq e => by have h1 : W.heap.size ≤ q := hq; omega)).mono fun q _ hq => ⟨by have h1 : W.heap.size ≤ q := hq.1; omega, hq.2⟩, ?_⟩
    refine ⟨((HXO.out.to (B := fun b => w2.heap.size ≤ b) (Nat.le_refl _) fun b hb _ _ => hb).frame hf48 fun b hb e => by omega).to (by omega) fun b _ _ hb => by have h1 : w2.heap.size ≤ b := hb; omega, ?_⟩
    exact (((HL8.out.mono (E := fun b => W.heap.size ≤ b ∧ b < w2.heap.size) fun k hk h => ⟨h.1, hk⟩).frame HFF.out (fun _ _ => id)).frame hf48 (fun b hb e => by have := hb.1; omega)).mono fun k _ hk => ⟨by have := hk.1; omega, by have := hk.1; omega, fun e => by have h1 := HOB.out k e; have := hk.2; omega⟩
theorem node_to : ∀ N, NodeTo N
  | 0 => fun x h => by omega
  | N + 1 => node_of N (node_to N)
/-- A copy of a program. -/
theorem tclone_any (l : List Nd) (hM : szL l ≤ 1099511627776) (D : Nat → Prop) (w : World) (v : Value) (h : NL D w l v) :
    Calls Tryd.prog 36 #[v] w fun e w' => ∃ v', e = .returned v' ∧ Fr (fun _ => False) w w' ∧ COwn w.heap.size w' l v' :=
  clone_of (szL l + 1) (node_to _) l (by omega) hM D w v h
end
section
open Go.RowKit

/-- All elements of a slice of several cells each appended; it may be nil, or empty. -/
theorem wp_appendNR {P : Program} {o : Oper} {a : Act} {w : World} {K : Act → World → Prop} {Q : Exit → Act → World → Prop} (s x : Operand) (t : TypeId)
    (ho : o.op = .call { callee := .builtin .append, args := #[s, x], argTypes := #[t, t] })
    (e : TypeId) (z : Value) (sz bytes : Nat) (ht : P.underlying t = some (.slice e)) (hrow : (P.info? e).map (fun i => (i.zero, i.size, i.bytes)) = some (some z, sz, bytes)) (hzs : z.cells.size = sz) (hsz0 : 0 < sz)
    (v : Value) (hs : a.eval s = v) (base n : Nat) (xs : List Value) (hown : w.ownsRow base e sz v n xs)
    (ao : Option Addr) (m c : Nat) (news : List Value) (hx : a.eval x = .slice ao m c) (hl : news.length = m * sz) (hn : ao = none → m = 0 ∧ c = 0)
    (hc : ∀ j, j < m * sz → ∃ b o, ao = some ⟨b, o, none⟩ ∧ w.cell? ⟨b, o + j, none⟩ = news[j]?) (hao : ∀ ad, ao = some ad → ∃ b o, ad = ⟨b, o, none⟩) (h1 : ∀ u ∈ news, u.oneCell' = true)
    (h63 : n + m ≤ 1099511627776) (hby : bytes ≤ 128) (hbase : base ≤ w.heap.size)
    (h : ∀ v' w', w'.ownsRow base e sz v' (n + m) (xs ++ news) → Fr (fun k => some k = v.ownBlock) w w' → K (a.put o.dst v') w') : o.wp P a w K Q := by
  obtain ⟨i, hi, hz, hsz, hbt⟩ := info_parts hrow
  have hb2 : (n + m) * bytes ≤ 140737488355328 := by
    have := Nat.mul_le_mul h63 hby
    omega
  have key : ∃ v' w', (Builtin.append_ #[t, t] o.type #[v, .slice ao m c]).run P w = .ok v' w' ∧ w'.ownsRow base e sz v' (n + m) (xs ++ news) ∧ w.grownBy w' v.ownBlock := by
    cases ao with
    | none =>
      obtain ⟨rfl, rfl⟩ := hn rfl
      have hnews : news = [] := List.eq_nil_of_length_eq_zero (by simpa using hl)
      subst hnews
      exact ⟨v, w, run_append_owned_none (P := P) w base t o.type e i sz ht hi v n xs hown, by simpa using hown, ⟨rfl, rfl, rfl, Nat.le_refl _, fun _ _ _ => rfl⟩⟩
    | some ad =>
      obtain ⟨b, oo, rfl⟩ := hao _ rfl
      have hcells : ∀ j y, news[j]? = some y → w.cell? ((⟨b, oo, none⟩ : Addr).add j) = some y := by
        intro j y hy
        have hj : j < m * sz := by rw [← hl]; exact (List.getElem?_eq_some_iff.1 hy).1
        obtain ⟨b', o', e, hcc⟩ := hc j hj
        simp only [Option.some.injEq, Addr.mk.injEq] at e
        obtain ⟨rfl, rfl, -⟩ := e
        have : (⟨b, oo, none⟩ : Addr).add j = ⟨b, oo + j, none⟩ := by unfold Addr.add; split <;> simp_all
        rw [this, hcc, hy]
      have hmx : n + m ≤ maxLen := by unfold maxLen; omega
      obtain ⟨v', w', hr, ho', hg, -⟩ := run_append_own (P := P) w base t o.type e i z sz bytes ht hi hz hsz hbt hzs hsz0 v n xs hown ⟨b, oo, none⟩ m c news hl hcells h1 hmx hb2 hbase
      exact ⟨v', w', hr, ho', hg⟩
  obtain ⟨v', w', hr, ho', hg⟩ := key
  unfold Oper.wp execOp
  simp only [ho, resolve, invoke, builtin, Sem.run_bind, Sem.run_pure, Result.andThen_ok, List.map_toArray, List.map_cons, List.map_nil, hs, hx, hr]
  exact h v' w' ho' (Fr.of_grownBy hg)
theorem wpList_appendNR {P : Program} {ops : Array Oper} {rest : List Oper} {o : Oper} {a : Act} {w : World} {Q : Exit → Act → World → Prop} (hgd : o.guard = none) (s x : Operand) (t : TypeId)
    (ho : o.op = .call { callee := .builtin .append, args := #[s, x], argTypes := #[t, t] })
    (e : TypeId) (z : Value) (sz bytes : Nat) (ht : P.underlying t = some (.slice e)) (hrow : (P.info? e).map (fun i => (i.zero, i.size, i.bytes)) = some (some z, sz, bytes)) (hzs : z.cells.size = sz) (hsz0 : 0 < sz)
    (v : Value) (hs : a.eval s = v) (base n : Nat) (xs : List Value) (hown : w.ownsRow base e sz v n xs)
    (ao : Option Addr) (m c : Nat) (news : List Value) (hx : a.eval x = .slice ao m c) (hl : news.length = m * sz) (hn : ao = none → m = 0 ∧ c = 0)
    (hc : ∀ j, j < m * sz → ∃ b o, ao = some ⟨b, o, none⟩ ∧ w.cell? ⟨b, o + j, none⟩ = news[j]?) (hao : ∀ ad, ao = some ad → ∃ b o, ad = ⟨b, o, none⟩) (h1 : ∀ u ∈ news, u.oneCell' = true)
    (h63 : n + m ≤ 1099511627776) (hby : bytes ≤ 128) (hbase : base ≤ w.heap.size)
    (h : ∀ v' w', w'.ownsRow base e sz v' (n + m) (xs ++ news) → Fr (fun k => some k = v.ownBlock) w w' → wpList P ops Q rest (a.put o.dst v') w') : wpList P ops Q (o :: rest) a w :=
  wpList_plain hgd fun _ hK => wp_appendNR s x t ho e z sz bytes ht hrow hzs hsz0 v hs base n xs hown ao m c news hx hl hn hc hao h1 h63 hby hbase fun v' w' h1 h2 => hK _ _ (h v' w' h1 h2)

mutual
/-- A node, then all below it. -/
def Nd.walk : Nd → List Nd
  | .mk op ln s v l => .mk op ln s v l :: walkL l
def walkL : List Nd → List Nd
  | [] => []
  | x :: r => Nd.walk x ++ walkL r
end
theorem Nd.walk_eq (x : Nd) : x.walk = x :: walkL x.l := by cases x; rw [Nd.walk]; rfl
theorem walkL_append (a b : List Nd) : walkL (a ++ b) = walkL a ++ walkL b := by
  induction a with
  | nil => simp [walkL]
  | cons x r ih => rw [List.cons_append, walkL, walkL, ih, List.append_assoc]
theorem walkL_take {l : List Nd} {k : Nat} {y : Nd} (h : l[k]? = some y) : walkL (l.take (k + 1)) = walkL (l.take k) ++ (y :: walkL y.l) := by
  rw [List.take_add_one, h, walkL_append]
  simp [walkL, Nd.walk_eq]
/-- A row of nodes' cells, each read in w0. -/
def WRow (D : Nat → Prop) (w0 : World) (L : List Nd) (ys : List Value) : Prop := ys.length = L.length * 8 ∧ ∀ i x, L[i]? = some x → ∃ u, NIn D w0 x u ∧ u.size = 8 ∧ ∀ j, j < 8 → ys[i * 8 + j]? = u[j]?
theorem WRow.nil (D : Nat → Prop) (w0 : World) : WRow D w0 [] [] := ⟨rfl, fun i x h => by simp at h⟩
theorem WRow.append {D : Nat → Prop} {w0 : World} {L M : List Nd} {ys zs : List Value} (h : WRow D w0 L ys) (k : WRow D w0 M zs) : WRow D w0 (L ++ M) (ys ++ zs) := by
  refine ⟨by rw [List.length_append, List.length_append, h.1, k.1, Nat.add_mul], fun i x hi => ?_⟩
  by_cases hlt : i < L.length
  · rw [List.getElem?_append_left hlt] at hi
    obtain ⟨u, h1, h2, h3⟩ := h.2 i x hi
    exact ⟨u, h1, h2, fun j hj => by rw [List.getElem?_append_left (by rw [h.1]; omega)]; exact h3 j hj⟩
  · rw [List.getElem?_append_right (by omega)] at hi
    obtain ⟨u, h1, h2, h3⟩ := k.2 _ x hi
    refine ⟨u, h1, h2, fun j hj => ?_⟩
    rw [List.getElem?_append_right (by rw [h.1]; omega), h.1, ← h3 j hj]
    congr 1
    omega
theorem WRow.one {D : Nat → Prop} {w0 : World} {x : Nd} {u : Array Value} (h : NIn D w0 x u) (hs : u.size = 8) : WRow D w0 [x] u.toList := by
  refine ⟨by simp [hs], fun i y hi => ?_⟩
  have h0 : i = 0 := by have := (List.getElem?_eq_some_iff.1 hi).1; simpa using this
  subst h0
  obtain rfl : x = y := by simpa using hi
  exact ⟨u, h, hs, fun j hj => by simp⟩
theorem NIn.one {D : Nat → Prop} {w : World} {x : Nd} {u : Array Value} (h : NIn D w x u) {j : Nat} {v : Value} (hj : u[j]? = some v) : v.oneCell' = true := by
  obtain ⟨va, vl, rfl, ⟨a, c, us, rfl, -⟩, ⟨a', c', us', rfl, -⟩⟩ := h.open
  have hm := Array.mem_of_getElem? hj
  simp only [List.mem_toArray, List.mem_cons, List.not_mem_nil, or_false] at hm
  rcases hm with rfl | rfl | rfl | rfl | rfl | rfl | rfl | rfl <;> rfl
end
section
open Go.RowKit

theorem encNs_append : ∀ (a b : List Nd), encNs (a ++ b) = encNs a ++ encNs b
  | [], b => by simp [encNs]
  | x :: r, b => by simp [encNs, encNs_append r b]
theorem encNs_take {l : List Nd} {k : Nat} {y : Nd} (h : l[k]? = some y) : encNs (l.take (k + 1)) = encNs (l.take k) ++ encN y := by
  rw [List.take_add_one, h, encNs_append]
  simp [encNs]
theorem encNs_take_le (l : List Nd) (k : Nat) : (encNs (l.take k)).length ≤ (encNs l).length := by
  have h : encNs l = encNs (l.take k) ++ encNs (l.drop k) := by rw [← encNs_append, List.take_append_drop]
  rw [h, List.length_append]
  omega
theorem OBx.ne {base k : Nat} {w0 w : World} {v0 v : Value} {l : List UInt8} (h : OBx base w0 v0 w v l) (hk : k < w0.heap.size) (hn : ¬ some k = v0.ownBlock) : ¬ some k = v.ownBlock := fun e =>
  (h.2.2 k e.symm).elim (fun e => hn e.symm) (by omega)
theorem encS_len (s : ByteArray) : (encS s).length = 4 + s.size := by
  have hsl : s.data.toList.length = s.size := by rw [Array.length_toList]; rfl
  rw [encS, List.length_append, leN_len, hsl]
theorem OBx.drew {base : Nat} {w0 w : World} {v0 v : Value} {l : List UInt8} (h : OBx base w0 v0 w v l) : OBx base w0 v0 w.drew v l := ⟨((Fr.refl (fun _ => False) w).drew).own h.1 fun _ _ => not_false, h.2.1.drew, h.2.2⟩
theorem V.eta' (x : V) : V.mk x.k x.n x.s x.l = x := by cases x; rfl
/-- No value of theirs is a list; texts are short. -/
def FlatL (l : List Nd) : Prop := ∀ y ∈ walkL l, y.v.k ≠ 4 ∧ y.v.s.size ≤ 1073741824
theorem FlatL.mem {l : List Nd} (h : FlatL l) {k : Nat} {y : Nd} (hy : l[k]? = some y) : (y.v.k ≠ 4 ∧ y.v.s.size ≤ 1073741824) ∧ FlatL y.l := by
  have hw : walkL l = walkL (l.take k) ++ (y :: walkL y.l) ++ walkL (l.drop (k + 1)) := by
    rw [← walkL_take hy, ← walkL_append, List.take_append_drop]
  refine ⟨h y ?_, fun z hz => h z ?_⟩
  · rw [hw]; simp
  · rw [hw]; simp [hz]
set_option maxRecDepth 100000 in
set_option maxHeartbeats 3200000 in
theorem mnodes_of (N : Nat) (ih : ∀ (l : List Nd), cntL l < N → FlatL l → ∀ (D : Nat → Prop) (base : Nat) (w : World) (v lv : Value) (b : List UInt8), NL D w l lv → (∀ k, D k → ¬ some k = v.ownBlock) → OB base w v b → (b ++ encL l).length ≤ 1073741000 → base ≤ w.heap.size →
      Calls Tryd.prog 29 #[v, lv] w fun e w' => ∃ v', e = .returned v' ∧ OBx base w v w' v' (b ++ encL l)) :
    ∀ (l : List Nd), cntL l < N + 1 → FlatL l → ∀ (D : Nat → Prop) (base : Nat) (w : World) (v lv : Value) (b : List UInt8), NL D w l lv → (∀ k, D k → ¬ some k = v.ownBlock) → OB base w v b → (b ++ encL l).length ≤ 1073741000 → base ≤ w.heap.size →
      Calls Tryd.prog 29 #[v, lv] w fun e w' => ∃ v', e = .returned v' ∧ OBx base w v w' v' (b ++ encL l) := by
  intro l hN hfl D base w v lv b h hD hO hlen hb
  have hll := len_le_cnt l
  have h' : NL (fun k => D k ∧ k < w.heap.size) w l lv := h.mono fun k hk hd => ⟨hd, hk⟩
  have hel : (encL l).length = 4 + (encNs l).length := by rw [encL, List.length_append, leN_len]
  rw [List.length_append, hel] at hlen
  have hcn : l.length ≤ (encNs l).length := by
    clear h h' hlen hel hfl hN
    induction l with
    | nil => simp
    | cons x r ih =>
      rw [encNs, List.length_append, encN_eq, List.length_append, leN_len, List.length_cons]
      have := ih (by have := len_le_cnt r; exact this)
      omega
  have HNUM := hid (mnum_any base v b l.length 4 w hO (by omega) (by decide) (by omega) hb)
  obtain ⟨a, cap, us, rfl, hc, hm, hn, hbl, hi⟩ := h'
  obtain ⟨ao, oc, rfl, -⟩ := own_len hO
  have hu : IntKind.u64.wrap (l.length : Int) = (l.length : Int) := IntWalk.u64_in _ (by omega)
  have hlI : (l.length : Int) ≤ 1073741000 := by omega
  have HBL := hid hbl; have HI := hid hi; have HN := hid hN; have HFL := hid hfl; have HIH := hid ih; have HD := hid hD; have HLEN := hid hlen; have HB := hid hb; have HO := hid hO
  clear hbl hi hN hfl ih hD hO hlen hb hc hm hn h hll hel hcn
  go_enter Tryd.func29, Tryd.ntmps29
  go_wp2_with (at_builtin; fail)
  refine HNUM.out.mono ?_
  rintro e w1 ⟨v1, rfl, hx⟩
  have HX := hid hx
  clear hx HNUM
  go_wp2_with fail
  go_loopw [0, 14] (fun u i wr => ∃ k : Nat, k ≤ l.length ∧ i = .int .i64 k ∧ Hid (OBx base w (.slice ao b.length oc) wr u (b ++ (leN l.length 4 ++ encNs (l.take k))))) (fun _ i _ => l.length - (intOf i).toNat)
  case atStart => exact ⟨0, Nat.zero_le _, rfl, hid (by simpa [encNs] using HX.out)⟩
  case round =>
    clear HX
    obtain ⟨k, hk, rfl, HX⟩ := hrel
    by_cases hlt : k < l.length
    · obtain ⟨bb, o, y, va, c1, a', c', rfl, hDb, hy, hv, e0, e1, e2, e3, e4, e5, e6, e7⟩ := NL.elem HBL.out HI.out k hlt
      have hlt' : (k : Int) < l.length := by omega
      have hf := HX.out.2.1
      have hnb : ¬ some bb = (Value.slice ao b.length oc).ownBlock := HD.out bb hDb.1
      replace e0 := hf.cell e0 hnb
      replace e1 := hf.cell e1 hnb
      replace e2 := hf.cell e2 hnb
      replace e3 := hf.cell e3 hnb
      replace e4 := hf.cell e4 hnb
      replace e5 := hf.cell e5 hnb
      replace e6 := hf.cell e6 hnb
      replace e7 := hf.cell e7 hnb
      obtain ⟨va2, vl, he, hvl, hyl⟩ := hv.open
      obtain rfl : vl = .slice a' y.l.length c' := by simpa using (congrArg (fun q => q.getD 7 undef) he).symm
      obtain rfl : va2 = .slice va y.v.l.length c1 := by simpa using (congrArg (fun q => q.getD 6 undef) he).symm
      have HYL := hid (hyl.frame hf fun k hk => HD.out k hk.1)
      have HVL := hid ((hvl.frame hf fun k hk => HD.out k hk.1).close y.v.k y.v.n y.v.s)
      have HFY := hid (HFL.out.mem hy)
      have HCY := hid (show cntL y.l < N by have := cntL_mem hy; have := Nd.cnt_eq y; have := HN.out; omega)
      have HNX := hid (show b ++ (leN l.length 4 ++ encNs (l.take (k + 1))) = (b ++ (leN l.length 4 ++ encNs (l.take k))) ++ encN y by rw [encNs_take hy]; simp)
      have HPL := hid (show ((b ++ (leN l.length 4 ++ encNs (l.take k))) ++ encN y).length ≤ 1073741000 by
        rw [← HNX.out, List.length_append, List.length_append, leN_len]
        have := encNs_take_le l (k + 1)
        have := HLEN.out
        omega)
      obtain ⟨P, hP⟩ : ∃ P, b ++ (leN l.length 4 ++ encNs (l.take k)) = P := ⟨_, rfl⟩
      rw [hP] at HX HNX HPL
      rw [encN_eq] at HNX HPL
      clear hP hyl hvl hv he hy hf hnb
      obtain ⟨ar, cr, rfl, -⟩ := own_len HX.out.1
      have HPN := hid (show P.length + 1 ≤ 1099511627776 by have := HPL.out; simp only [List.length_append] at this; omega)
      have HF1 := hid (((Fr.refl (fun k => some k = (Value.slice ar P.length cr).ownBlock) wr).alloc (.cells #[.int .i64 y.op, .int .i64 y.ln, .string y.s, .int .i64 y.v.k, .int .i64 y.v.n, .string y.v.s, .slice va y.v.l.length c1, .slice a' y.l.length c'] 36)).alloc (.cells #[.int .u8 (y.op % 256)] 5))
      have HR := hid (heap_alloc_new wr (.cells #[.int .i64 y.op, .int .i64 y.ln, .string y.s, .int .i64 y.v.k, .int .i64 y.v.n, .string y.v.s, .slice va y.v.l.length c1, .slice a' y.l.length c'] 36))
      have HOW := hid (World.ownsRow.alloc (World.ownsRow.alloc HX.out.1 (.cells #[.int .i64 y.op, .int .i64 y.ln, .string y.s, .int .i64 y.v.k, .int .i64 y.v.n, .string y.v.s, .slice va y.v.l.length c1, .slice a' y.l.length c'] 36)) (.cells #[.int .u8 (y.op % 256)] 5))
      have HBW := hid (byte_word y.op)
      have HBS := hid (Nat.le_trans HB.out HX.out.2.1.size)
      go_wp2_with (at_builtin; go_must (refine wpList_append1 rfl (.tmp 18) (.tmp 22) 41 rfl 5 (.int .u8 0) 1 Tryd.underlying41 Tryd.info_byte rfl _ rfl base P.length (bV P) HOW.out (wr.heap.size + 1) 1 (.int .u8 (y.op % 256)) rfl (by simp) rfl HPN.out (by decide) (by have := HBS.out; simp; omega) ?_))
      intro g cp w2 ho hf2 hn2
      have HX2 := hid (show OBx base wr (.slice ar P.length cr) w2 (.slice (some ⟨g, 0, none⟩) (P.length + 1) cp) (P ++ leN (uI y.op) 1) from OBx.of (by rw [HBW.out]; exact ho) (by rw [leN_len]) (HF1.out.trans' hf2) (fun r hr => by
        simp only [Value.ownBlock, Option.some.injEq] at hr
        subst hr
        refine hn2.imp id fun h => ?_
        (try simp at h); omega))
      have hw0 : wr.heap.size < ((wr.alloc (.cells #[.int .i64 y.op, .int .i64 y.ln, .string y.s, .int .i64 y.v.k, .int .i64 y.v.n, .string y.v.s, .slice va y.v.l.length c1, .slice a' y.l.length c'] 36)).alloc (.cells #[.int .u8 (y.op % 256)] 5)).heap.size := by simp; omega
      have hne : ¬ some wr.heap.size = (Value.slice ar P.length cr).ownBlock := fun e => by have := (HX.out.1.lt _ e.symm).2; omega
      have hr2 : w2.heap[wr.heap.size]? = some (.cells #[.int .i64 y.op, .int .i64 y.ln, .string y.s, .int .i64 y.v.k, .int .i64 y.v.n, .string y.v.s, .slice va y.v.l.length c1, .slice a' y.l.length c'] 36 (0, 0)) := hf2.heap (((Fr.refl (fun _ => False) _).alloc _).heap HR.out not_false) hne
      have hne2 : ¬ some wr.heap.size = (Value.slice (some ⟨g, 0, none⟩) (P.length + 1) cp).ownBlock := fun e => by
        simp only [Value.ownBlock, Option.some.injEq] at e
        subst e
        rcases hn2 with h | h
        · exact hne h.symm
        · (try simp at h); omega
      have hsz2 := heap_lt hr2
      have HR2 := hid hr2; have HNE2 := hid hne2; have HSZ2 := hid hsz2
      obtain ⟨B, hB⟩ : ∃ B, wr.heap.size = B := ⟨_, rfl⟩
      rw [hB] at HR2 HNE2 HSZ2
      rw [hB]
      have d1 : w2.cell? ⟨B, 1, none⟩ = some (.int .i64 y.ln) := by rw [cell_of_row _ _ _ _ _ _ HR2.out]; rfl
      have HI2 := hid (mint_any base _ (P ++ leN (uI y.op) 1) y.ln w2 HX2.out.1 (by have := HPL.out; simp only [List.length_append] at this ⊢; omega) (Nat.le_trans HBS.out HX2.out.2.1.size))
      clear ho hf2 hn2 hne hr2 hne2 hsz2 hw0 hB HOW HR HF1 e0 e1 e2 e3 e4 e5 e6 e7
      go_wp2_with fail
      refine HI2.out.mono ?_
      rintro e w3 ⟨v3, rfl, hx3⟩
      obtain ⟨P3, hP3⟩ : ∃ q, P ++ leN (uI y.op) 1 ++ encI y.ln = q := ⟨_, rfl⟩
      rw [hP3] at hx3
      have HX3 := hid (HX2.out.trans hx3)
      have HR3 := hid (hx3.2.1.heap HR2.out HNE2.out)
      have HNE3 := hid (hx3.ne HSZ2.out HNE2.out)
      have HSZ3 := hid (heap_lt HR3.out)
      have HPL3 := hid (show P3.length + ((encS y.s).length + ((encV y.v).length + (encL y.l).length)) ≤ 1073741000 by rw [← hP3]; have := HPL.out; simp only [List.length_append] at this ⊢; omega)
      have HNX3 := hid (show b ++ (leN l.length 4 ++ encNs (l.take (k + 1))) = P3 ++ encS y.s ++ encV y.v ++ encL y.l by rw [HNX.out, ← hP3]; simp only [List.append_assoc])
      have HBS3 := hid (Nat.le_trans HBS.out HX3.out.2.1.size)
      have HO3 := hid hx3.1
      obtain ⟨a3, c3, rfl, -⟩ := own_len hx3.1
      clear hx3 d1 HI2 hP3 HX2 HR2 HNE2 HSZ2 HNX HPL
      go_upto_region 7 with fail
      have HC := hid (fun (w' : World) (h : w'.heap[B]? = some (.cells #[.int .i64 y.op, .int .i64 y.ln, .string y.s, .int .i64 y.v.k, .int .i64 y.v.n, .string y.v.s, .slice va y.v.l.length c1, .slice a' y.l.length c'] 36 (0, 0))) => (show w'.cell? ⟨B, 2, none⟩ = some (.string y.s) ∧ w'.cell? ⟨B, 3, none⟩ = some (.int .i64 y.v.k) ∧ w'.cell? ⟨B, 4, none⟩ = some (.int .i64 y.v.n) ∧ w'.cell? ⟨B, 5, none⟩ = some (.string y.v.s) ∧ w'.cell? ⟨B, 6, none⟩ = some (.slice va y.v.l.length c1) by
        refine ⟨?_, ?_, ?_, ?_, ?_⟩
        all_goals (rw [cell_of_row _ _ _ _ _ _ h]; rfl)))
      refine wp_region_ord [(0, 0), (1, 0), (2, 0), (4, 0), (5, 0), (3, 1), (6, 1), (7, 0)] (fun w' => w'.heap[B]? = some (.cells #[.int .i64 y.op, .int .i64 y.ln, .string y.s, .int .i64 y.v.k, .int .i64 y.v.n, .string y.v.s, .slice va y.v.l.length c1, .slice a' y.l.length c'] 36 (0, 0))) (by kernel_rfl) (by kernel_rfl) (by kernel_rfl) rfl (fun _ _ d _ _ h => by cases d <;> exact h) HR3.out ?_
      iterate 2 (refine wpO_take ?_ rfl (by kernel_rfl) ?_ ?_; rotate_left; (· intro w' hS; go_simp; try with_reducible rfl); try simp only [Act.put, List.setIfInBounds_toArray, List.set_cons_zero, List.set_cons_succ])
      (refine wpO_take ?_ rfl (by kernel_rfl) ?_ ?_; rotate_left; (· intro w' hS; obtain ⟨q2, q3, q4, q5, q6⟩ := HC.out w' hS; go_simp; try with_reducible rfl); try simp only [Act.put, List.setIfInBounds_toArray, List.set_cons_zero, List.set_cons_succ])
      (refine wpO_take ?_ rfl (by kernel_rfl) ?_ ?_; rotate_left; (· intro w' hS; go_simp; try with_reducible rfl); try simp only [Act.put, List.setIfInBounds_toArray, List.set_cons_zero, List.set_cons_succ])
      (refine wpO_take ?_ rfl (by kernel_rfl) ?_ ?_; rotate_left; (· intro w' hS; obtain ⟨q2, q3, q4, q5, q6⟩ := HC.out w' hS; go_simp; try with_reducible rfl); try simp only [Act.put, List.setIfInBounds_toArray, List.set_cons_zero, List.set_cons_succ])
      have hfd : Fr (fun _ => False) w3 w3.drew := (Fr.refl _ _).drew
      refine wpO_run rfl (by kernel_rfl) (fun K hK => ?_); go_simp
      refine (mtext_any base _ P3 y.s w3.drew (hfd.own HO3.out fun _ _ => not_false) (by have := HPL3.out; have := encS_len y.s; omega) (by have := HPL3.out; omega) (Nat.le_trans HBS3.out hfd.size)).mono ?_
      rintro e w4 ⟨v4, rfl, hx4⟩
      obtain ⟨P4, hP4⟩ : ∃ q, P3 ++ encS y.s = q := ⟨_, rfl⟩
      rw [hP4] at hx4
      have hr4 : w4.heap[B]? = some (.cells #[.int .i64 y.op, .int .i64 y.ln, .string y.s, .int .i64 y.v.k, .int .i64 y.v.n, .string y.v.s, .slice va y.v.l.length c1, .slice a' y.l.length c'] 36 (0, 0)) := hx4.2.1.heap (hfd.heap HR3.out not_false) HNE3.out
      refine hK _ _ (fun _ => hr4) ?_
      clear hK K
      try simp only [Act.put, List.setIfInBounds_toArray, List.set_cons_zero, List.set_cons_succ]
      have HX4 := hid (HX3.out.drew.trans hx4)
      have HNE4 := hid (hx4.ne (Nat.lt_of_lt_of_le HSZ3.out hfd.size) HNE3.out)
      have HR4 := hid hr4
      have hDr : ∀ k, D k ∧ k < w.heap.size → ¬ some k = (Value.slice ar P.length cr).ownBlock := fun k hk e => (HX.out.2.2 k e.symm).elim (fun e => HD.out k hk.1 e.symm) (by omega)
      have hlv : (P4 ++ encV y.v).length ≤ 1073741000 := by rw [← hP4]; have := HPL3.out; simp only [List.length_append] at this ⊢; omega
      have HVL4 := hid (HVL.out.frame HX4.out.2.1 hDr)
      rw [V.eta'] at HVL4
      have HO4 := hid hx4.1
      have HMV := hid (mvalue_any base _ P4 y.v _ w4 _ HVL4.out HFY.out.1.1 HFY.out.1.2 hx4.1 (by rw [List.length_append] at hlv; omega) (Nat.le_trans HBS3.out (Nat.le_trans hfd.size hx4.2.1.size)))
      have HDR := hid hDr
      obtain ⟨a4, c4, rfl, -⟩ := own_len hx4.1
      clear hx4 hr4 hDr hlv
      refine wpO_run rfl (by kernel_rfl) (fun K hK => ?_); go_simp
      refine HMV.out.mono ?_
      rintro e w5 ⟨v5, rfl, hx5⟩
      obtain ⟨P5, hP5⟩ : ∃ q, P4 ++ encV y.v = q := ⟨_, rfl⟩
      rw [hP5] at hx5
      have hr5 := hx5.2.1.heap HR4.out HNE4.out
      refine hK _ _ (fun _ => hr5) ?_
      clear hK K
      try simp only [Act.put, List.setIfInBounds_toArray, List.set_cons_zero, List.set_cons_succ]
      (refine wpO_take ?_ rfl (by kernel_rfl) ?_ ?_; rotate_left; (· intro w' hS; go_simp; try with_reducible rfl); try simp only [Act.put, List.setIfInBounds_toArray, List.set_cons_zero, List.set_cons_succ])
      refine wpO_end ?_
      have HX5 := hid (HX4.out.trans hx5)
      have HP5 := hid (show P3 ++ encS y.s ++ encV y.v = P5 by rw [hP4, hP5])
      have d7 : w5.cell? ⟨B, 7, none⟩ = some (.slice a' y.l.length c') := by rw [cell_of_row _ _ _ _ _ _ hr5]; rfl
      have HY5 := hid (HYL.out.frame HX5.out.2.1 HDR.out)
      have HREC := hid (HIH.out y.l HCY.out HFY.out.2 _ base w5 v5 _ P5 HY5.out (fun k hk e => (HX5.out.2.2 k e.symm).elim (fun e => HDR.out k hk e.symm) (by have := HX.out.2.1.size; omega)) hx5.1 (by rw [← HP5.out]; have := HPL3.out; simp only [List.length_append] at this ⊢; omega) (Nat.le_trans HBS.out HX5.out.2.1.size))
      obtain ⟨a5, c5, rfl, -⟩ := own_len hx5.1
      clear hx5 hr5 HMV HX4 HVL4 HO4 HX3 hP4 hP5 HO3 hfd
      go_wp2_with fail
      refine HREC.out.mono ?_
      rintro e w6 ⟨v6, rfl, hx6⟩
      have HX6 := hid (show OBx base w (.slice ao b.length oc) w6 v6 (b ++ (leN l.length 4 ++ encNs (l.take (k + 1)))) by
        rw [HNX3.out, HP5.out]
        exact HX.out.trans (HX5.out.trans hx6))
      clear hx6 HREC d7
      go_wp2_with fail
      go_roundw
      case rel => exact ⟨k + 1, by omega, by go_num, HX6⟩
      case measure => simp [intOf]; omega
    · obtain rfl : k = l.length := by omega
      rw [List.take_length] at HX
      go_wp2_with fail
      go_ret
      exact ⟨_, rfl, HX.out⟩
theorem mnodes_to : ∀ (N : Nat) (l : List Nd), cntL l < N → FlatL l → ∀ (D : Nat → Prop) (base : Nat) (w : World) (v lv : Value) (b : List UInt8), NL D w l lv → (∀ k, D k → ¬ some k = v.ownBlock) → OB base w v b → (b ++ encL l).length ≤ 1073741000 → base ≤ w.heap.size →
      Calls Tryd.prog 29 #[v, lv] w fun e w' => ∃ v', e = .returned v' ∧ OBx base w v w' v' (b ++ encL l)
  | 0 => fun l h => absurd h (Nat.not_lt_zero _)
  | N + 1 => mnodes_of N (mnodes_to N)
end
end Go.Proofs.YtbegahbagnflnaaDoor
