/- val.compare puts any two values in order: 0 just for the same value; antisymmetric; transitive. -/
import Derived.Test.YtebanmigaikhhaaValCmp
import Derived.Sort.Statements
namespace Go.Proofs.Ytebanmigaikhhaa
open Go.RowKit

theorem cbl_eq : ∀ {a b : List UInt8}, Lib.compareBytes a b = 0 ↔ a = b
  | [], [] => by simp [Lib.compareBytes]
  | [], _ :: _ => by simp [Lib.compareBytes]
  | _ :: _, [] => by simp [Lib.compareBytes]
  | a :: r, b :: t => by
    rw [Lib.compareBytes]
    by_cases h1 : a < b
    · rw [if_pos h1]
      simp only [UInt8.lt_iff_toNat_lt] at h1
      constructor
      · intro h; omega
      · intro h; injection h with h2; subst h2; omega
    · rw [if_neg h1]
      by_cases h2 : b < a
      · rw [if_pos h2]
        simp only [UInt8.lt_iff_toNat_lt] at h2
        constructor
        · intro h; omega
        · intro h; injection h with h3; subst h3; omega
      · rw [if_neg h2, cbl_eq (a := r) (b := t)]
        simp only [UInt8.lt_iff_toNat_lt] at h1 h2
        have : a = b := UInt8.toNat_inj.1 (by omega)
        simp [this]
theorem cbl_anti : ∀ {a b : List UInt8}, Lib.compareBytes a b < 0 ↔ 0 < Lib.compareBytes b a
  | [], [] => by simp [Lib.compareBytes]
  | [], _ :: _ => by simp [Lib.compareBytes]
  | _ :: _, [] => by simp [Lib.compareBytes]
  | a :: r, b :: t => by
    rw [Lib.compareBytes, Lib.compareBytes]
    by_cases h1 : a < b
    · have h2 : ¬ b < a := by simp only [UInt8.lt_iff_toNat_lt] at *; omega
      rw [if_pos h1, if_neg h2, if_pos h1]; omega
    · by_cases h2 : b < a
      · rw [if_neg h1, if_pos h2, if_pos h2]; omega
      · rw [if_neg h1, if_neg h2, if_neg h2, if_neg h1]
        exact cbl_anti
theorem cbl_trans : ∀ {a b c : List UInt8}, Lib.compareBytes a b < 0 → Lib.compareBytes b c < 0 → Lib.compareBytes a c < 0
  | [], [], _, h, _ => by simp [Lib.compareBytes] at h
  | [], _ :: _, [], _, h => by simp [Lib.compareBytes] at h
  | [], _ :: _, _ :: _, _, _ => by simp [Lib.compareBytes]
  | _ :: _, [], _, h, _ => by simp [Lib.compareBytes] at h
  | _ :: _, _ :: _, [], _, h => by simp [Lib.compareBytes] at h
  | a :: r, b :: t, c :: u, h, h' => by
    rw [Lib.compareBytes] at h h' ⊢
    simp only [UInt8.lt_iff_toNat_lt] at *
    by_cases h1 : a.toNat < b.toNat
    · by_cases h2 : b.toNat < c.toNat
      · rw [if_pos (by omega)]; omega
      · rw [if_neg h2] at h'
        by_cases h3 : c.toNat < b.toNat
        · rw [if_pos h3] at h'; omega
        · rw [if_pos (by omega)]; omega
    · rw [if_neg h1] at h
      by_cases h2 : b.toNat < a.toNat
      · rw [if_pos h2] at h; omega
      · rw [if_neg h2] at h
        by_cases h3 : b.toNat < c.toNat
        · rw [if_pos (by omega)]; omega
        · rw [if_neg h3] at h'
          by_cases h4 : c.toNat < b.toNat
          · rw [if_pos h4] at h'; omega
          · rw [if_neg h4] at h'
            rw [if_neg (by omega), if_neg (by omega)]
            exact cbl_trans h h'
theorem cb_eq {a b : ByteArray} : cb a b = 0 ↔ a = b := by
  unfold cb
  rw [cbl_eq]
  constructor
  · intro h; cases a; cases b; simp at h; rw [h]
  · intro h; rw [h]
theorem cb_anti {a b : ByteArray} : cb a b < 0 ↔ 0 < cb b a := cbl_anti
theorem cb_trans {a b c : ByteArray} (h : cb a b < 0) (h' : cb b c < 0) : cb a c < 0 := cbl_trans h h'

mutual
theorem cmpV_zero : ∀ (x y : V), cmpV x y = 0 ↔ x = y
  | .mk k n s l, .mk k' n' s' l' => by
    rw [cmpV]
    have hl := cmpL_zero l l'
    have hs := cb_eq (a := s) (b := s')
    rw [V.mk.injEq]
    split
    · constructor
      · intro h; omega
      · rintro ⟨h, -⟩; omega
    split
    · constructor
      · intro h; omega
      · rintro ⟨-, h, -⟩; omega
    split
    · constructor
      · intro h; omega
      · rintro ⟨-, h, -⟩; omega
    split
    · rename_i h1 h2 h3 h4
      constructor
      · intro h; exact absurd h h4
      · rintro ⟨-, -, h, -⟩; exact absurd (hs.2 h) h4
    · rename_i h1 h2 h3 h4
      rw [hl]
      constructor
      · intro h; exact ⟨by omega, by omega, hs.1 (by omega), h⟩
      · rintro ⟨-, -, -, h⟩; exact h
theorem cmpL_zero : ∀ (l m : List V), cmpL l m = 0 ↔ l = m
  | [], [] => by simp [cmpL]
  | [], y :: t => by
    rw [cmpL]
    constructor
    · intro h; simp at h; omega
    · intro h; cases h
  | x :: r, [] => by
    rw [cmpL]
    constructor
    · intro h; omega
    · intro h; cases h
  | x :: r, y :: t => by
    rw [cmpL]
    have h1 := cmpV_zero x y
    have h2 := cmpL_zero r t
    split
    · rename_i h
      constructor
      · intro h'; exact absurd h' h
      · intro h'; injection h' with h3 _; exact absurd (h1.2 h3) h
    · rename_i h
      rw [h2]
      have h3 := h1.1 (by omega)
      constructor
      · intro h'; rw [h3, h']
      · intro h'; injection h'
end
theorem cmpV_lt (x y : V) : cmpV x y < 0 ↔ x.k < y.k ∨ (x.k = y.k ∧ (x.n < y.n ∨ (x.n = y.n ∧ (cb x.s y.s < 0 ∨ (x.s = y.s ∧ cmpL x.l y.l < 0))))) := by
  rw [cmpV_eq]
  have hs := cb_eq (a := x.s) (b := y.s)
  split
  · constructor
    · intro h; exact .inl (by omega)
    · rintro (h | ⟨h, -⟩) <;> omega
  split
  · constructor
    · intro h; exact .inr ⟨by omega, .inl (by omega)⟩
    · intro h; omega
  split
  · constructor
    · intro h; omega
    · rintro (h | ⟨h, h2 | ⟨h2, -⟩⟩) <;> omega
  split
  · rename_i h1 h2 h3 h4
    constructor
    · intro h; exact .inr ⟨by omega, .inr ⟨by omega, .inl h⟩⟩
    · rintro (h | ⟨h, h5 | ⟨h5, h6 | ⟨h6, -⟩⟩⟩)
      · omega
      · omega
      · exact h6
      · exact absurd (hs.2 h6) h4
  · rename_i h1 h2 h3 h4
    constructor
    · intro h; exact .inr ⟨by omega, .inr ⟨by omega, .inr ⟨hs.1 (by omega), h⟩⟩⟩
    · rintro (h | ⟨h, h5 | ⟨h5, h6 | ⟨h6, h7⟩⟩⟩)
      · omega
      · omega
      · omega
      · exact h7
theorem cmpV_gt (x y : V) : 0 < cmpV x y ↔ y.k < x.k ∨ (y.k = x.k ∧ (y.n < x.n ∨ (y.n = x.n ∧ (0 < cb x.s y.s ∨ (x.s = y.s ∧ 0 < cmpL x.l y.l))))) := by
  rw [cmpV_eq]
  have hs := cb_eq (a := x.s) (b := y.s)
  split
  · constructor
    · intro h; exact .inl (by omega)
    · rintro (h | ⟨h, -⟩) <;> omega
  split
  · constructor
    · intro h; omega
    · rintro (h | ⟨h, h2 | ⟨h2, -⟩⟩) <;> omega
  split
  · constructor
    · intro h; exact .inr ⟨by omega, .inl (by omega)⟩
    · intro h; omega
  split
  · rename_i h1 h2 h3 h4
    constructor
    · intro h; exact .inr ⟨by omega, .inr ⟨by omega, .inl h⟩⟩
    · rintro (h | ⟨h, h5 | ⟨h5, h6 | ⟨h6, -⟩⟩⟩)
      · omega
      · omega
      · exact h6
      · exact absurd (hs.2 h6) h4
  · rename_i h1 h2 h3 h4
    constructor
    · intro h; exact .inr ⟨by omega, .inr ⟨by omega, .inr ⟨hs.1 (by omega), h⟩⟩⟩
    · rintro (h | ⟨h, h5 | ⟨h5, h6 | ⟨h6, h7⟩⟩⟩)
      · omega
      · omega
      · omega
      · exact h7
mutual
theorem cmpV_anti : ∀ (x y : V), cmpV x y < 0 ↔ 0 < cmpV y x
  | .mk k n s l, .mk k' n' s' l' => by
    rw [cmpV_lt, cmpV_gt]
    simp only [V.k, V.n, V.s, V.l]
    have hl := cmpL_anti l l'
    have hs := cb_anti (a := s) (b := s')
    rw [hl, hs]
    constructor
    · rintro (h | ⟨h, h1 | ⟨h1, h2 | ⟨h2, h3⟩⟩⟩)
      · exact .inl h
      · exact .inr ⟨h, .inl h1⟩
      · exact .inr ⟨h, .inr ⟨h1, .inl h2⟩⟩
      · exact .inr ⟨h, .inr ⟨h1, .inr ⟨h2.symm, h3⟩⟩⟩
    · rintro (h | ⟨h, h1 | ⟨h1, h2 | ⟨h2, h3⟩⟩⟩)
      · exact .inl h
      · exact .inr ⟨h, .inl h1⟩
      · exact .inr ⟨h, .inr ⟨h1, .inl h2⟩⟩
      · exact .inr ⟨h, .inr ⟨h1, .inr ⟨h2.symm, h3⟩⟩⟩
theorem cmpL_anti : ∀ (l m : List V), cmpL l m < 0 ↔ 0 < cmpL m l
  | [], [] => by simp [cmpL]
  | [], y :: t => by
    rw [cmpL, cmpL]
    simp
    try omega
  | x :: r, [] => by
    rw [cmpL, cmpL]
    simp
    try omega
  | x :: r, y :: t => by
    rw [cmpL, cmpL]
    have h1 := cmpV_anti x y
    have h2 := cmpL_anti r t
    have h3 := cmpV_zero x y
    have h4 := cmpV_zero y x
    have h5 : cmpV x y = 0 ↔ cmpV y x = 0 := by rw [h3, h4]; exact eq_comm
    split
    · rename_i h
      rw [if_pos (fun e => h (h5.2 e))]
      exact h1
    · rename_i h
      rw [if_neg (fun e => e (h5.1 (Classical.byContradiction fun q => h q)))]
      exact h2
end
mutual
theorem cmpV_trans : ∀ (x y z : V), cmpV x y < 0 → cmpV y z < 0 → cmpV x z < 0
  | .mk k n s l, .mk k' n' s' l', .mk k2 n2 s2 l2 => by
    rw [cmpV_lt, cmpV_lt, cmpV_lt]
    simp only [V.k, V.n, V.s, V.l]
    have hl := cmpL_trans l l' l2
    intro h h'
    rcases h with h | ⟨h, h1 | ⟨h1, h2 | ⟨h2, h3⟩⟩⟩
    · rcases h' with g | ⟨g, -⟩ <;> exact .inl (by omega)
    · rcases h' with g | ⟨g, g1 | ⟨g1, -⟩⟩
      · exact .inl (by omega)
      · exact .inr ⟨by omega, .inl (by omega)⟩
      · exact .inr ⟨by omega, .inl (by omega)⟩
    · rcases h' with g | ⟨g, g1 | ⟨g1, g2 | ⟨g2, g3⟩⟩⟩
      · exact .inl (by omega)
      · exact .inr ⟨by omega, .inl (by omega)⟩
      · exact .inr ⟨by omega, .inr ⟨by omega, .inl (cb_trans h2 g2)⟩⟩
      · exact .inr ⟨by omega, .inr ⟨by omega, .inl (by rw [← g2]; exact h2)⟩⟩
    · rcases h' with g | ⟨g, g1 | ⟨g1, g2 | ⟨g2, g3⟩⟩⟩
      · exact .inl (by omega)
      · exact .inr ⟨by omega, .inl (by omega)⟩
      · exact .inr ⟨by omega, .inr ⟨by omega, .inl (by rw [h2]; exact g2)⟩⟩
      · exact .inr ⟨by omega, .inr ⟨by omega, .inr ⟨h2.trans g2, hl h3 g3⟩⟩⟩
theorem cmpL_trans : ∀ (l m p : List V), cmpL l m < 0 → cmpL m p < 0 → cmpL l p < 0
  | [], [], _, h, _ => by simp [cmpL] at h
  | [], _ :: _, [], _, h => by rw [cmpL] at h; omega
  | [], _ :: _, _ :: _, _, _ => by rw [cmpL]; simp; try omega
  | _ :: _, [], _, h, _ => by rw [cmpL] at h; omega
  | _ :: _, _ :: _, [], _, h => by rw [cmpL] at h; omega
  | x :: r, y :: t, z :: q, h, h' => by
    rw [cmpL] at h h' ⊢
    have h1 := cmpV_trans x y z
    have h2 := cmpL_trans r t q
    have e1 := cmpV_zero x y
    have e2 := cmpV_zero y z
    by_cases c1 : cmpV x y = 0
    · have exy := e1.1 c1
      subst exy
      rw [if_neg (fun e => e c1)] at h
      by_cases c2 : cmpV x z = 0
      · rw [if_neg (fun e => e c2)] at h' ⊢
        exact h2 h h'
      · rw [if_pos c2] at h' ⊢
        exact h'
    · rw [if_pos c1] at h
      by_cases c2 : cmpV y z = 0
      · have eyz := e2.1 c2
        subst eyz
        rw [if_pos c1]
        exact h
      · rw [if_pos c2] at h'
        have h3 := h1 h h'
        rw [if_pos (by omega)]
        exact h3
end
def ltV (x y : V) : Bool := decide (cmpV x y < 0)
theorem ltV_irr (x : V) : ltV x x = false := by unfold ltV; rw [(cmpV_zero x x).2 rfl]; rfl
theorem ltV_eq {x y : V} (h : ltV x y = false) (h' : ltV y x = false) : x = y := by
  unfold ltV at *
  have h1 := of_decide_eq_false h
  have h2 := of_decide_eq_false h'
  rw [cmpV_anti] at h2
  exact (cmpV_zero x y).1 (by omega)
theorem swo_ltV : Go.Sort.SWO (α := V) ltV where
  irrefl := ltV_irr
  trans := fun x y z h h' => decide_eq_true (cmpV_trans x y z (of_decide_eq_true h) (of_decide_eq_true h'))
  ntrans := fun x y z h h' => by
    cases hxz : ltV x z with
    | false => rfl
    | true =>
      cases hzy : ltV z y with
      | true =>
        have := cmpV_trans x z y (of_decide_eq_true hxz) (of_decide_eq_true hzy)
        rw [show ltV x y = true from decide_eq_true this] at h
        cases h
      | false =>
        have := ltV_eq hzy h'
        subst this
        rw [hxz] at h
        cases h
end Go.Proofs.Ytebanmigaikhhaa
