/- Plain facts of compare: of right values; of two that have no items. -/
import Derived.Test.YtjngddmjgcecnaaValCmp
import Derived.Test.YtjngddmjgcecnaaValSameX
import Derived.Test.YtjngddmjgcecnaaRightOk
namespace Go.Proofs.Ytjngddmjgcecnaa
open Go.RowKit

theorem cmpB_refl : ∀ (a : List UInt8), Lib.compareBytes a a = 0
  | [] => rfl
  | a :: r => by
    rw [Lib.compareBytes, if_neg (by simp), if_neg (by simp)]
    exact cmpB_refl r
theorem cmpB_eq : ∀ (a b : List UInt8), Lib.compareBytes a b = 0 → a = b
  | [], [], _ => rfl
  | [], _ :: _, h => by simp [Lib.compareBytes] at h
  | _ :: _, [], h => by simp [Lib.compareBytes] at h
  | a :: r, b :: t, h => by
    rw [Lib.compareBytes] at h
    split at h
    · simp at h
    · split at h
      · simp at h
      · rename_i h1 h2
        have : a = b := UInt8.le_antisymm (UInt8.not_lt.1 h2) (UInt8.not_lt.1 h1)
        rw [this, cmpB_eq r t h]
theorem cmpB_neg : ∀ (a b : List UInt8), Lib.compareBytes b a = -Lib.compareBytes a b
  | [], [] => rfl
  | [], _ :: _ => rfl
  | _ :: _, [] => rfl
  | a :: r, b :: t => by
    rw [Lib.compareBytes, Lib.compareBytes]
    by_cases h1 : a < b
    · have h2 : ¬ b < a := fun h => absurd (UInt8.lt_trans h1 h) (UInt8.lt_irrefl a)
      rw [if_neg h2, if_pos h1, if_pos h1]
      rfl
    · by_cases h2 : b < a
      · rw [if_pos h2, if_neg h1, if_pos h2]
      · rw [if_neg h2, if_neg h1, if_neg h1, if_neg h2]
        exact cmpB_neg r t
theorem cb_refl (s : ByteArray) : cb s s = 0 := cmpB_refl _
theorem cb_eq {s t : ByteArray} (h : cb s t = 0) : s = t := by
  have := cmpB_eq _ _ h
  cases s; cases t
  simp at this
  rw [this]
theorem cb_neg (s t : ByteArray) : cb t s = -cb s t := cmpB_neg _ _

/-- Of two of one kind that have no items just one of the three. -/
theorem cmp_flat (x y : V) (hk : x.k = y.k) (hl : x.l = []) (hl' : y.l = []) :
    (x = y ∧ ¬ cmpV x y < 0 ∧ ¬ cmpV y x < 0) ∨ (x ≠ y ∧ cmpV x y < 0 ∧ ¬ cmpV y x < 0) ∨ (x ≠ y ∧ ¬ cmpV x y < 0 ∧ cmpV y x < 0) := by
  have h1 := cmpV_eq x y
  have h2 := cmpV_eq y x
  rw [if_neg (fun e => e hk)] at h1
  rw [if_neg (fun e => e hk.symm)] at h2
  rw [hl, hl', show cmpL [] [] = 0 from rfl] at h1 h2
  by_cases h3 : x.n < y.n
  · rw [if_pos h3] at h1
    rw [if_neg (by omega), if_pos h3] at h2
    exact .inr (.inl ⟨fun e => by rw [e] at h3; omega, by omega, by omega⟩)
  · by_cases h4 : y.n < x.n
    · rw [if_neg h3, if_pos h4] at h1
      rw [if_pos h4] at h2
      exact .inr (.inr ⟨fun e => by rw [e] at h4; omega, by omega, by omega⟩)
    · rw [if_neg h3, if_neg h4] at h1
      rw [if_neg h4, if_neg h3] at h2
      have h5 := cb_neg x.s y.s
      by_cases h6 : cb x.s y.s = 0
      · rw [if_neg (fun e => e h6)] at h1
        rw [if_neg (fun e => e (by omega))] at h2
        exact .inl ⟨V.ext' hk (by omega) (cb_eq h6) (by rw [hl, hl']), by omega, by omega⟩
      · rw [if_pos h6] at h1
        rw [if_pos (by omega)] at h2
        have hne : x ≠ y := fun e => h6 (by rw [e]; exact cb_refl _)
        by_cases h7 : cb x.s y.s < 0
        · exact .inr (.inl ⟨hne, by omega, by omega⟩)
        · exact .inr (.inr ⟨hne, by omega, by omega⟩)

mutual
theorem odd_kr : ∀ (x : V) (deep sz : Nat), (x.odd deep sz).1 = 0 → x.kr
  | .mk k n s l, deep, sz, h => by
    rw [V.odd] at h
    by_cases h1 : 40 < deep
    · rw [if_pos h1] at h; simp at h
    · rw [if_neg h1] at h
      by_cases h2 : 4096 < oddSize k s sz
      · rw [if_pos h2] at h; simp at h
      · rw [if_neg h2] at h
        by_cases h3 : oddRange k n = true
        · rw [if_pos h3] at h; simp at h
        · rw [if_neg h3] at h
          by_cases h4 : oddShape k n s l.isEmpty = true
          · rw [if_pos h4] at h; simp at h
          · rw [if_neg h4] at h
            have h5 : 0 ≤ k ∧ k ≤ 4 := by
              unfold oddRange at h3
              simp at h3
              omega
            exact ⟨h5.1, h5.2, oddL_kr l _ _ h⟩
theorem oddL_kr : ∀ (l : List V) (deep sz : Nat), (oddL l deep sz).1 = 0 → krL l
  | [], _, _, _ => trivial
  | x :: r, deep, sz, h => by
    rw [oddL] at h
    by_cases h1 : (x.odd deep sz).1 = 0
    · rw [if_pos h1] at h
      exact ⟨odd_kr x _ _ h1, oddL_kr r _ _ h⟩
    · rw [if_neg h1] at h
      exact absurd h h1
end
theorem right_kr {x : V} (h : x.right = true) : x.kr := by
  have h1 : (x.odd 1 0).1 = 0 := by
    unfold V.right V.valid at h
    simpa using h
  exact odd_kr x 1 0 h1
theorem kinded_l {x : V} (h : x.kinded) (hk : x.k ≠ 4) : x.l = [] := by
  cases x
  exact h.2.1 hk
end Go.Proofs.Ytjngddmjgcecnaa
