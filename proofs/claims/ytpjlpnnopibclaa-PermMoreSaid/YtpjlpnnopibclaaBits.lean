/- Plain facts on bits of an int: with no bit; with more bits. -/
import Derived.Test.YtpjlpnnopibclaaPerm
namespace Go.Proofs.Ytpjlpnnopibclaa
open Go.RowKit

theorem wrap_zero_iff (n : Nat) (h : n < 18446744073709551616) : IntKind.i64.wrap (n : Int) = 0 ↔ n = 0 := by
  rw [IntKind.wrap_i64]
  omega
theorem ofInt_wrap (x : BitVec 64) : BitVec.ofInt 64 (IntKind.i64.wrap (x.toNat : Int)) = x := by
  apply BitVec.eq_of_toNat_eq
  have h := x.isLt
  rw [BitVec.toNat_ofInt, IntKind.wrap_i64]
  have : (2 ^ 64 : Nat) = 18446744073709551616 := by decide
  simp only [this] at *
  omega
theorem and_eq (a b : Int) : Go.bits BinOp.and IntKind.i64 a b = IntKind.i64.wrap ((BitVec.ofInt 64 a &&& BitVec.ofInt 64 b).toNat : Int) := by
  rfl
theorem or_eq (a b : Int) : Go.bits BinOp.or IntKind.i64 a b = IntKind.i64.wrap ((BitVec.ofInt 64 a ||| BitVec.ofInt 64 b).toNat : Int) := by
  rfl
theorem hasB_iff (a b : Int) : hasB a b = true ↔ (BitVec.ofInt 64 a &&& BitVec.ofInt 64 b) ≠ 0#64 := by
  unfold hasB
  rw [bne_iff_ne, and_eq, ne_eq, wrap_zero_iff _ (by have := (BitVec.ofInt 64 a &&& BitVec.ofInt 64 b).isLt; simpa using this), ne_eq]
  constructor
  · intro h e; exact h (by rw [e]; rfl)
  · intro h e; exact h (BitVec.eq_of_toNat_eq (by simpa using e))
theorem hasB_zero_right (a : Int) : hasB a 0 = false := by
  rw [Bool.eq_false_iff]
  intro h
  exact (hasB_iff a 0).1 h (by simp)
theorem hasB_zero_left (a : Int) : hasB 0 a = false := by
  rw [Bool.eq_false_iff]
  intro h
  exact (hasB_iff 0 a).1 h (by simp)
theorem hasB_or (a c b : Int) (h : hasB a b = true) : hasB (Go.bits BinOp.or IntKind.i64 a c) b = true := by
  rw [hasB_iff] at *
  rw [or_eq, ofInt_wrap]
  intro e
  apply h
  apply BitVec.eq_of_getLsbD_eq
  intro i hi
  have := congrArg (fun x : BitVec 64 => x.getLsbD i) e
  simp only [BitVec.getLsbD_and, BitVec.getLsbD_or, BitVec.getLsbD_zero] at this ⊢
  cases h1 : (BitVec.ofInt 64 a).getLsbD i <;> cases h2 : (BitVec.ofInt 64 b).getLsbD i <;> simp_all
theorem slot_same (own : Bool) (op sb : Int) : slotB own op sb = rslotB own op sb := by simp [slotB, rslotB, hasB_zero_right]
end Go.Proofs.Ytpjlpnnopibclaa
