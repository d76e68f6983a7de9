/- What is sealed, bit by bit: when it opens. Plain. -/
import Derived.Test.YtlpbjmgpckhneaaDoorFrameD
namespace Go.Proofs.YtlpbjmgpckhneaaDoor
open Go.RowKit

/-- A bit of bytes, the lowest of each first. -/
def bitAt (l : List UInt8) (j : Nat) : Bool := (l.getD (j / 8) 0).toNat.testBit (j % 8)
theorem S_word' {c : BitVec 32} {e : Nat → Bool} (k : Nat) : ∀ j, j ≤ 32 → S c e (k + j) = it zs j (S c e k ^^^ wd (fun i => e (k + i)) j)
  | 0, _ => by simp [wd, it]
  | j + 1, hj => by
    have h1 := S_word' (c := c) (e := e) k j (by omega)
    rw [← Nat.add_assoc]
    simp only [S, h1, wd, it_xor, it, zs_xor]
    have h2 := it_one_shift j (by omega)
    rw [BitVec.xor_assoc]
    congr 2
    by_cases he : e (k + j) = true
    · rw [if_pos he, h2, he]; rfl
    · rw [if_neg he, it_zero, Bool.eq_false_iff.2 he]; rfl
theorem byte_bits (c : BitVec 32) (b : UInt8) : crcB c b = S c (fun i => b.toNat.testBit i) 8 := by
  have h := S_word' (c := c) (e := fun i => b.toNat.testBit i) 0 8 (by decide)
  rw [Nat.zero_add] at h
  rw [h]
  unfold crcB
  congr 2
  apply BitVec.eq_of_getLsbD_eq
  intro i hi
  rw [wd_bit _ 8 (by decide) i hi, BitVec.getLsbD_ofNat]
  by_cases h8 : i < 8
  · simp [h8, hi]
  · have hb := b.toNat_lt
    have : b.toNat.testBit i = false := Nat.testBit_lt_two_pow (Nat.lt_of_lt_of_le hb (Nat.pow_le_pow_right (by decide) (by omega)))
    simp [h8, this]
theorem S_shift (c : BitVec 32) (e : Nat → Bool) (k : Nat) : ∀ m, S c e (k + m) = S (S c e k) (fun i => e (k + i)) m
  | 0 => rfl
  | m + 1 => by rw [← Nat.add_assoc]; simp only [S, S_shift c e k m]
theorem crc_bits : ∀ (l : List UInt8) (c : BitVec 32), crc c l = S c (bitAt l) (8 * l.length)
  | [], c => rfl
  | b :: l, c => by
    have h1 := crc_bits l (crcB c b)
    have e : crc c (b :: l) = crc (crcB c b) l := rfl
    rw [e, h1, List.length_cons, show 8 * (l.length + 1) = 8 + 8 * l.length by omega, S_shift, byte_bits]
    have e1 : S c (bitAt (b :: l)) 8 = S c (fun i => b.toNat.testBit i) 8 := S_congr (fun j hj => by
      unfold bitAt
      rw [show j / 8 = 0 by omega, show j % 8 = j by omega]
      rfl)
    rw [e1]
    apply S_congr
    intro j _
    unfold bitAt
    rw [show (8 + j) / 8 = j / 8 + 1 by omega, show (8 + j) % 8 = j % 8 by omega]
    rfl
theorem n4_bit (l : List UInt8) (i : Nat) (hi : i < 32) : (n4 l).testBit i = bitAt l i := by
  have h0 := (l.getD 0 0).toNat_lt
  have h1 := (l.getD 1 0).toNat_lt
  have h2 := (l.getD 2 0).toNat_lt
  have h3 := (l.getD 3 0).toNat_lt
  unfold bitAt n4
  have e : (l.getD 0 0).toNat + 256 * (l.getD 1 0).toNat + 65536 * (l.getD 2 0).toNat + 16777216 * (l.getD 3 0).toNat = 2 ^ 8 * (2 ^ 8 * (2 ^ 8 * (l.getD 3 0).toNat + (l.getD 2 0).toNat) + (l.getD 1 0).toNat) + (l.getD 0 0).toNat := by omega
  rw [e, Nat.testBit_two_pow_mul_add _ h0]
  by_cases c0 : i < 8
  · rw [if_pos c0, show i / 8 = 0 by omega, show i % 8 = i by omega]
  · rw [if_neg c0, Nat.testBit_two_pow_mul_add _ h1]
    by_cases c1 : i - 8 < 8
    · rw [if_pos c1, show i / 8 = 1 by omega, show i % 8 = i - 8 by omega]
    · rw [if_neg c1, Nat.testBit_two_pow_mul_add _ h2]
      by_cases c2 : i - 8 - 8 < 8
      · rw [if_pos c2, show i / 8 = 2 by omega, show i % 8 = i - 8 - 8 by omega]
      · rw [if_neg c2, show i / 8 = 3 by omega, show i % 8 = i - 8 - 8 - 8 by omega]

/-- It opens just if the register ends so. -/
theorem open_iff (t : List UInt8) (L : Nat) (h : t.length = L + 4) : (openB t).2 = 0 ↔ S 4294967295#32 (bitAt t) (8 * t.length) = it zs 32 (BitVec.allOnes 32) := by
  have e1 : (openB t).2 = 0 ↔ n4 (t.drop L) = (sumB (t.take L)).toNat := by
    unfold openB
    rw [if_neg (by omega), h, show L + 4 - 4 = L by omega]
    by_cases hx : n4 (t.drop L) = (sumB (t.take L)).toNat
    · rw [if_pos hx]; simp [hx]
    · rw [if_neg hx]; simp [hx]
  have hs : 8 * t.length = 8 * L + 32 := by omega
  rw [e1, hs, S_word' (8 * L) 32 (Nat.le_refl _)]
  have hc : crc 4294967295#32 (t.take L) = S 4294967295#32 (bitAt t) (8 * L) := by
    rw [crc_bits, List.length_take, Nat.min_eq_left (by omega)]
    apply S_congr
    intro j hj
    unfold bitAt
    have : (t.take L).getD (j / 8) 0 = t.getD (j / 8) 0 := by
      simp only [List.getD, List.getElem?_take]
      rw [if_pos (by omega)]
    rw [this]
  have hw : wd (fun i => bitAt t (8 * L + i)) 32 = BitVec.ofNat 32 (n4 (t.drop L)) := by
    apply BitVec.eq_of_getLsbD_eq
    intro i hi
    rw [wd_bit _ 32 (Nat.le_refl _) i hi, BitVec.getLsbD_ofNat, n4_bit _ i hi]
    simp only [hi, decide_true, Bool.true_and]
    unfold bitAt
    rw [show (8 * L + i) / 8 = L + i / 8 by omega, show (8 * L + i) % 8 = i % 8 by omega]
    simp only [List.getD, List.getElem?_drop]
  rw [hw, ← hc]
  have hlt := n4_lt (t.drop L)
  generalize n4 (t.drop L) = x at *
  unfold sumB
  generalize crc 4294967295#32 (t.take L) = c
  constructor
  · intro hx
    congr 1
    rw [hx, BitVec.ofNat_toNat, BitVec.setWidth_eq, ← BitVec.xor_allOnes, ← BitVec.xor_assoc, BitVec.xor_self, BitVec.zero_xor]
  · intro hx
    have h2 := it_eq 32 hx
    have h3 : BitVec.ofNat 32 x = ~~~c := by
      have : c ^^^ (c ^^^ BitVec.ofNat 32 x) = c ^^^ BitVec.allOnes 32 := by rw [h2]
      rw [← BitVec.xor_assoc, BitVec.xor_self, BitVec.zero_xor] at this
      rw [this, BitVec.xor_allOnes]
    rw [← h3, BitVec.toNat_ofNat, Nat.mod_eq_of_lt hlt]
theorem seal_opens (l : List UInt8) : openB (sealB l) = (l, 0) := by
  unfold openB sealB
  have h := n4_le4 (sumB l).toNat (sumB l).isLt
  simp [h]
/-- With the bits of D turned it opens just if D's bits end so. -/
theorem turned_iff (l t : List UInt8) (D : Nat → Bool) (ht : t.length = (sealB l).length) (hD : ∀ j, j < 8 * t.length → bitAt t j = (bitAt (sealB l) j ^^ D j)) : (openB t).2 = 0 ↔ S 0#32 D (8 * t.length) = 0#32 := by
  have hsl : (sealB l).length = l.length + 4 := by simp [sealB]
  have h0 := (open_iff (sealB l) l.length hsl).1 (by rw [seal_opens])
  rw [open_iff t l.length (by omega)]
  have e : S 4294967295#32 (bitAt t) (8 * t.length) = S (4294967295#32 ^^^ 0#32) (fun j => bitAt (sealB l) j ^^ D j) (8 * t.length) := by
    rw [BitVec.xor_zero]
    exact S_congr hD
  rw [e, S_xor, ht, h0]
  constructor
  · intro h
    have : it zs 32 (BitVec.allOnes 32) ^^^ (it zs 32 (BitVec.allOnes 32) ^^^ S 0#32 D (8 * (sealB l).length)) = it zs 32 (BitVec.allOnes 32) ^^^ it zs 32 (BitVec.allOnes 32) := by rw [h]
    rw [← BitVec.xor_assoc, BitVec.xor_self, BitVec.zero_xor] at this
    exact this
  · intro h
    rw [h, BitVec.xor_zero]
theorem bits_ext {s t : List UInt8} (h : s.length = t.length) (hb : ∀ j, j < 8 * s.length → bitAt s j = bitAt t j) : s = t := by
  apply List.ext_getElem h
  intro i h1 h2
  apply UInt8.toNat.inj
  apply Nat.eq_of_testBit_eq
  intro j
  by_cases hj : j < 8
  · have := hb (8 * i + j) (by omega)
    unfold bitAt at this
    rw [show (8 * i + j) / 8 = i by omega, show (8 * i + j) % 8 = j by omega] at this
    simpa [List.getD, h1, h2] using this
  · have hz : ∀ b : UInt8, b.toNat.testBit j = false := fun b => Nat.testBit_lt_two_pow (Nat.lt_of_lt_of_le b.toNat_lt (Nat.pow_le_pow_right (by decide) (by omega)))
    rw [hz, hz]
/-- A bit turned. -/
def flip (l : List UInt8) (p : Nat) : List UInt8 := l.set (p / 8) (l.getD (p / 8) 0 ^^^ UInt8.ofNat (2 ^ (p % 8)))
@[simp] theorem flip_length (l : List UInt8) (p : Nat) : (flip l p).length = l.length := by simp [flip]
theorem flip_bit (l : List UInt8) (p : Nat) (hp : p < 8 * l.length) (j : Nat) : bitAt (flip l p) j = (bitAt l j ^^ (j == p)) := by
  unfold bitAt flip
  by_cases h : j / 8 = p / 8
  · have e : (l.set (p / 8) (l.getD (p / 8) 0 ^^^ UInt8.ofNat (2 ^ (p % 8)))).getD (j / 8) 0 = l.getD (p / 8) 0 ^^^ UInt8.ofNat (2 ^ (p % 8)) := by
      rw [h]
      simp [List.getD, show p / 8 < l.length by omega]
    rw [e, UInt8.toNat_xor, Nat.testBit_xor, h]
    congr 1
    have hm : p % 8 < 8 := Nat.mod_lt _ (by decide)
    have e2 : (UInt8.ofNat (2 ^ (p % 8))).toNat = 2 ^ (p % 8) := by
      rw [UInt8.toNat_ofNat']
      exact Nat.mod_eq_of_lt (Nat.pow_lt_pow_right (by decide) hm)
    rw [e2, Nat.testBit_two_pow]
    by_cases hjp : j = p
    · subst hjp; simp
    · have : ¬ p % 8 = j % 8 := by omega
      simp [this, hjp]
  · have e : (l.set (p / 8) (l.getD (p / 8) 0 ^^^ UInt8.ofNat (2 ^ (p % 8)))).getD (j / 8) 0 = l.getD (j / 8) 0 := by
      simp only [List.getD]
      rw [List.getElem?_set_ne (by omega)]
    rw [e]
    have : (j == p) = false := by
      rw [beq_eq_false_iff_ne]
      intro e
      exact h (by rw [e])
    rw [this, Bool.xor_false]
theorem open_not {t : List UInt8} (h4 : 4 ≤ t.length) (h : (openB t).2 ≠ 0) : (openB t).2 = 102 := by
  unfold openB at h ⊢
  rw [if_neg (by omega)] at h ⊢
  split at h
  · exact absurd rfl h
  · rename_i hx
    rw [if_neg hx]
end Go.Proofs.YtlpbjmgpckhneaaDoor
