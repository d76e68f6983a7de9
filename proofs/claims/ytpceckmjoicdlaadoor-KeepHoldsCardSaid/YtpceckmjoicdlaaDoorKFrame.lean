/- Package frame: sums, records (the texts of law21 in one: gen_kframe.py). -/
import Derived.Test.YtpceckmjoicdlaaDoorSee
import Derived.Test.YtpceckmjoicdlaaDoorBClone
import Derived.Laws.BitsAll
import Derived.Laws.Tables
namespace Go.Proofs.YtpceckmjoicdlaaDoor
section
/-- One step of the register. -/
def zs (c : BitVec 32) : BitVec 32 := if c.getLsbD 0 then (c >>> 1) ^^^ 0xedb88320#32 else c >>> 1
theorem zs_xor (a b : BitVec 32) : zs (a ^^^ b) = zs a ^^^ zs b := by
  unfold zs
  have e : (a ^^^ b) >>> 1 = (a >>> 1) ^^^ (b >>> 1) := by
    apply BitVec.eq_of_getLsbD_eq; intro i hi; simp
  rw [BitVec.getLsbD_xor, e]
  generalize a >>> 1 = x
  generalize b >>> 1 = y
  cases ha : a.getLsbD 0 <;> cases hb : b.getLsbD 0
  · rfl
  · show x ^^^ y ^^^ 0xedb88320#32 = x ^^^ (y ^^^ 0xedb88320#32)
    ac_rfl
  · show x ^^^ y ^^^ 0xedb88320#32 = x ^^^ 0xedb88320#32 ^^^ y
    ac_rfl
  · show x ^^^ y = x ^^^ 0xedb88320#32 ^^^ (y ^^^ 0xedb88320#32)
    rw [show x ^^^ 0xedb88320#32 ^^^ (y ^^^ 0xedb88320#32) = (x ^^^ y) ^^^ (0xedb88320#32 ^^^ 0xedb88320#32) by ac_rfl, BitVec.xor_self, BitVec.xor_zero]
theorem zs_inj {c : BitVec 32} (h : zs c = 0#32) : c = 0#32 := by
  unfold zs at h
  cases hc : c.getLsbD 0
  · rw [hc] at h
    apply BitVec.eq_of_getLsbD_eq
    intro i hi
    cases i with
    | zero => simpa using hc
    | succ i =>
      have := congrArg (fun x : BitVec 32 => x.getLsbD i) h
      simp [BitVec.getLsbD_ushiftRight] at this
      rw [Nat.add_comm] at this
      simpa using this
  · rw [hc, if_pos rfl] at h
    have := congrArg (fun x : BitVec 32 => x.getLsbD 31) h
    simp [BitVec.getLsbD_ushiftRight] at this
def it (f : BitVec 32 → BitVec 32) : Nat → BitVec 32 → BitVec 32
  | 0, c => c
  | n + 1, c => f (it f n c)
theorem it_xor (n : Nat) (a b : BitVec 32) : it zs n (a ^^^ b) = it zs n a ^^^ it zs n b := by
  induction n with
  | zero => rfl
  | succ n ih => simp only [it, ih, zs_xor]
theorem it_inj (n : Nat) {c : BitVec 32} (h : it zs n c = 0#32) : c = 0#32 := by
  induction n with
  | zero => exact h
  | succ n ih => exact ih (zs_inj h)
theorem it_add (m n : Nat) (c : BitVec 32) : it zs (m + n) c = it zs m (it zs n c) := by
  induction m with
  | zero => simp [it]
  | succ m ih => rw [Nat.add_right_comm]; simp only [it, ih]
theorem zs_zero : zs 0#32 = 0#32 := by decide
theorem it_zero (n : Nat) : it zs n 0#32 = 0#32 := by
  induction n with
  | zero => rfl
  | succ n ih => simp only [it, ih, zs_zero]
theorem xor_eq_zero {a b : BitVec 32} (h : a ^^^ b = 0#32) : a = b := by
  have : (a ^^^ b) ^^^ b = 0#32 ^^^ b := by rw [h]
  simpa [BitVec.xor_assoc] using this
theorem it_eq (n : Nat) {a b : BitVec 32} (h : it zs n a = it zs n b) : a = b := by
  apply xor_eq_zero
  apply it_inj n
  rw [it_xor, h, BitVec.xor_self]
/-- A bit's place in the register. -/
theorem it_one_shift : ∀ j, j < 32 → it zs j (1#32 <<< j) = 1#32 := by decide +kernel

/-! The register, bit by bit. -/
def b1 (b : Bool) : BitVec 32 := if b then 1#32 else 0#32
theorem b1_xor (a b : Bool) : b1 (a ^^ b) = b1 a ^^^ b1 b := by cases a <;> cases b <;> rfl
def S (c : BitVec 32) (e : Nat → Bool) : Nat → BitVec 32
  | 0 => c
  | m + 1 => zs (S c e m ^^^ b1 (e m))
theorem S_xor (c d : BitVec 32) (e f : Nat → Bool) (m : Nat) : S (c ^^^ d) (fun j => e j ^^ f j) m = S c e m ^^^ S d f m := by
  induction m with
  | zero => rfl
  | succ m ih =>
    simp only [S, ih, b1_xor, ← zs_xor]
    congr 1
    simp only [BitVec.xor_assoc]
    congr 1
    rw [← BitVec.xor_assoc, BitVec.xor_comm _ (b1 (e m)), BitVec.xor_assoc]
theorem S_congr {c : BitVec 32} {e f : Nat → Bool} {m : Nat} (h : ∀ j, j < m → e j = f j) : S c e m = S c f m := by
  induction m with
  | zero => rfl
  | succ m ih => simp only [S, ih (fun j hj => h j (by omega)), h m (by omega)]
theorem S_rest {c : BitVec 32} {e : Nat → Bool} {k : Nat} (h : ∀ j, k ≤ j → e j = false) (m : Nat) : S c e (k + m) = it zs m (S c e k) := by
  induction m with
  | zero => rfl
  | succ m ih => rw [← Nat.add_assoc]; simp [S, it, ih, h (k + m) (by omega), b1]
theorem S_zero {e : Nat → Bool} {k : Nat} (h : ∀ j, j < k → e j = false) : S 0#32 e k = 0#32 := by
  induction k with
  | zero => rfl
  | succ k ih => simp [S, ih (fun j hj => h j (by omega)), h k (by omega), b1, zs_zero]
theorem S_one (p m : Nat) (h : p < m) : S 0#32 (fun j => j == p) m = it zs (m - p) 1#32 := by
  obtain ⟨d, rfl⟩ : ∃ d, m = (p + 1) + d := ⟨m - (p + 1), by omega⟩
  rw [S_rest (fun j hj => by simp; omega)]
  have : S 0#32 (fun j => j == p) (p + 1) = it zs 1 1#32 := by
    simp only [S, it, beq_self_eq_true]
    rw [S_zero (fun j hj => by simp; omega)]
    rfl
  rw [this, ← it_add]
  congr 1; omega
/-- The first j bits, as a word. -/
def wd (e : Nat → Bool) : Nat → BitVec 32
  | 0 => 0#32
  | j + 1 => wd e j ^^^ (if e j then 1#32 <<< j else 0#32)
theorem S_word {e : Nat → Bool} (k : Nat) (h : ∀ j, j < k → e j = false) : ∀ j, j ≤ 32 → S 0#32 e (k + j) = it zs j (wd (fun i => e (k + i)) j)
  | 0, _ => S_zero h
  | j + 1, hj => by
    have h1 := S_word k h j (by omega)
    rw [← Nat.add_assoc]
    simp only [S, h1, wd, it_xor, it]
    congr 1
    have h2 := it_one_shift j (by omega)
    congr 1
    by_cases he : e (k + j) = true
    · rw [if_pos he, h2, he]; rfl
    · rw [if_neg he, it_zero, Bool.eq_false_iff.2 he]; rfl
theorem wd_bit (e : Nat → Bool) : ∀ j, j ≤ 32 → ∀ i, i < 32 → (wd e j).getLsbD i = (decide (i < j) && e i)
  | 0, _, i, _ => by simp [wd]
  | j + 1, hj, i, hi => by
    have h1 := wd_bit e j (by omega) i hi
    simp only [wd, BitVec.getLsbD_xor, h1]
    have h2 : (if e j then 1#32 <<< j else 0#32).getLsbD i = (decide (i = j) && e j) := by
      cases he : e j
      · simp
      · simp only [if_true, Bool.and_true]
        rw [BitVec.getLsbD_shiftLeft]
        by_cases hij : i = j
        · subst hij; simp [hi]
        · simp [hij, hi]; omega
    rw [h2]
    by_cases hij : i = j
    · subst hij; simp
    · rcases Nat.lt_or_gt_of_ne hij with h | h
      · simp [hij, h, show i < j + 1 by omega]
      · simp [hij, show ¬ i < j by omega, show ¬ i < j + 1 by omega]
/-- A burst of 32 bits is told. -/
theorem S_burst {e : Nat → Bool} (k n : Nat) (h1 : ∀ j, j < k → e j = false) (h2 : ∀ j, k + 32 ≤ j ∨ n ≤ j → e j = false) (h : S 0#32 e n = 0#32) : ∀ j, e j = false := by
  have hS : S 0#32 e (n + (k + 32)) = 0#32 := by
    rw [S_rest (fun j hj => h2 j (.inr hj)), h, it_zero]
  rw [show n + (k + 32) = (k + 32) + n by omega, S_rest (fun j hj => h2 j (.inl hj)), S_word k h1 32 (Nat.le_refl _)] at hS
  have hw := it_inj _ (it_inj _ hS)
  intro j
  by_cases hj : j < k
  · exact h1 j hj
  · by_cases hj2 : k + 32 ≤ j
    · exact h2 j (.inl hj2)
    · have := wd_bit (fun i => e (k + i)) 32 (Nat.le_refl _) (j - k) (by omega)
      rw [hw] at this
      simp only [BitVec.getLsbD_zero] at this
      rw [show k + (j - k) = j by omega] at this
      simpa [show j - k < 32 by omega] using this.symm

/-! Three bits: by running through the places. -/
def gN (x : Nat) : Nat := if x % 2 == 1 then (x / 2) ^^^ 0xedb88320 else x / 2
theorem gN_zs (c : BitVec 32) : (zs c).toNat = gN c.toNat := by
  unfold zs gN
  have : c.getLsbD 0 = (c.toNat % 2 == 1) := by simp [BitVec.getLsbD, Nat.testBit, Nat.one_and_eq_mod_two]
  rw [this]
  split
  · simp [BitVec.toNat_xor, BitVec.toNat_ushiftRight, Nat.shiftRight_eq_div_pow]
  · simp [BitVec.toNat_ushiftRight, Nat.shiftRight_eq_div_pow]
def its : Nat → Nat → List Nat
  | 0, _ => []
  | n + 1, x => (x / 2) :: its n (gN x)
def dst : Nat → List Nat → Bool
  | 0, l => match l with | [] => true | [_] => true | _ => false
  | k + 1, l => match l with | [] => true | [_] => true | _ => dst k (l.filter fun x => Nat.testBit x k) && dst k (l.filter fun x => !Nat.testBit x k)
theorem dst_spec : ∀ (k : Nat) (l : List Nat), dst k l = true → ∀ a, ¬ [a, a].Sublist l
  | 0, l, h, a, hs => by
    have := hs.length_le
    unfold dst at h
    split at h <;> simp_all
  | k + 1, l, h, a, hs => by
    have h2 := hs.length_le
    unfold dst at h
    split at h
    · simp at h2
    · simp at h2
    · rw [Bool.and_eq_true] at h
      cases hb : Nat.testBit a k
      · have := hs.filter (fun x => !Nat.testBit x k)
        simp [hb] at this
        exact dst_spec k _ h.2 a (by simpa using this)
      · have := hs.filter (fun x => Nat.testBit x k)
        simp [hb] at this
        exact dst_spec k _ h.1 a (by simpa using this)
theorem its_get : ∀ (n : Nat) (c : BitVec 32) (i : Nat), i < n → (its n c.toNat)[i]? = some ((it zs i c).toNat / 2)
  | 0, _, _, h => by omega
  | n + 1, c, 0, _ => rfl
  | n + 1, c, i + 1, h => by
    have h1 := its_get n (zs c) i (by omega)
    simp only [its, List.getElem?_cons_succ]
    rw [← gN_zs, h1, show it zs i (zs c) = it zs (i + 1) c from (it_add i 1 c).symm]
set_option maxRecDepth 100000 in
theorem dst_4032 : dst 31 (its 4032 1) = true := by decide +kernel
theorem pow_ne {i j : Nat} (hij : i < j) (hj : j < 4032) : (it zs i 1#32).toNat / 2 ≠ (it zs j 1#32).toNat / 2 := by
  have hi := its_get 4032 1#32 i (by omega)
  have hjj := its_get 4032 1#32 j hj
  rw [show (1#32).toNat = 1 by decide] at hi hjj
  have hp : (its 4032 1).Pairwise (· ≠ ·) := by
    rw [List.pairwise_iff_forall_sublist]
    intro a b hab e
    subst e
    exact dst_spec 31 _ dst_4032 a hab
  rw [List.pairwise_iff_getElem] at hp
  obtain ⟨li, ei⟩ := List.getElem?_eq_some_iff.1 hi
  obtain ⟨lj, ej⟩ := List.getElem?_eq_some_iff.1 hjj
  have := hp i j li lj hij
  rw [ei, ej] at this
  exact this
theorem pow_ne' {i j : Nat} (hij : i ≠ j) (hi : i < 4032) (hj : j < 4032) : (it zs i 1#32).toNat / 2 ≠ (it zs j 1#32).toNat / 2 := by
  rcases Nat.lt_or_gt_of_ne hij with h | h
  · exact pow_ne h hj
  · exact fun e => pow_ne h hi e.symm
/-- The least of three. -/
theorem three_least {a b c : Nat} (hca : c < a) (hcb : c < b) (hab : a ≠ b) (ha : a ≤ 4032) (hb : b ≤ 4032) (hc : 0 < c) : it zs a 1#32 ^^^ it zs b 1#32 ^^^ it zs c 1#32 ≠ 0#32 := by
  intro h
  obtain ⟨i, rfl⟩ : ∃ i, a = c + i := ⟨a - c, by omega⟩
  obtain ⟨j, rfl⟩ : ∃ j, b = c + j := ⟨b - c, by omega⟩
  rw [it_add, it_add, ← it_xor, ← it_xor] at h
  have h := xor_eq_zero (it_inj _ h)
  apply pow_ne' (i := i) (j := j) (by omega) (by omega) (by omega)
  have h2 : it zs i 1#32 = it zs j 1#32 ^^^ 1#32 := by
    generalize it zs i 1#32 = x at *
    generalize it zs j 1#32 = y at *
    rw [← h, show y ^^^ (x ^^^ y) = x ^^^ (y ^^^ y) by ac_rfl, BitVec.xor_self, BitVec.xor_zero]
  rw [h2, BitVec.toNat_xor]
  have := Nat.xor_div_two (a := (it zs j 1#32).toNat) (b := (1#32).toNat)
  rw [this]
  simp
theorem three_ne {a b c : Nat} (hab : a ≠ b) (hac : a ≠ c) (hbc : b ≠ c) (ha : 0 < a ∧ a ≤ 4032) (hb : 0 < b ∧ b ≤ 4032) (hc : 0 < c ∧ c ≤ 4032) : it zs a 1#32 ^^^ it zs b 1#32 ^^^ it zs c 1#32 ≠ 0#32 := by
  have comm : ∀ x y z : BitVec 32, x ^^^ y ^^^ z = x ^^^ z ^^^ y := fun x y z => by rw [BitVec.xor_assoc, BitVec.xor_comm y, ← BitVec.xor_assoc]
  by_cases h1 : c < a ∧ c < b
  · exact three_least h1.1 h1.2 hab ha.2 hb.2 hc.1
  · by_cases h2 : b < a ∧ b < c
    · rw [comm]; exact three_least h2.1 h2.2 hac ha.2 hc.2 hb.1
    · rw [BitVec.xor_comm (it zs a 1#32), comm, ]
      exact three_least (by omega) (by omega) hbc hb.2 hc.2 ha.1
theorem one_ne (a : Nat) : it zs a 1#32 ≠ 0#32 := fun h => by have := it_inj a h; revert this; decide
/-- Three bits turned, any of them twice or thrice: told. -/
theorem S_three (p q r n : Nat) (hp : p < n) (hq : q < n) (hr : r < n) (hn : n ≤ 4032) : S 0#32 (fun j => ((j == p) ^^ (j == q)) ^^ (j == r)) n ≠ 0#32 := by
  have e : S 0#32 (fun j => ((j == p) ^^ (j == q)) ^^ (j == r)) n = it zs (n - p) 1#32 ^^^ it zs (n - q) 1#32 ^^^ it zs (n - r) 1#32 := by
    rw [← S_one p n hp, ← S_one q n hq, ← S_one r n hr, ← S_xor, ← S_xor]
    rfl
  rw [e]
  by_cases hpq : p = q
  · subst hpq; rw [BitVec.xor_self, BitVec.zero_xor]; exact one_ne _
  · by_cases hpr : p = r
    · subst hpr; rw [BitVec.xor_comm (it zs (n - p) 1#32), BitVec.xor_assoc, BitVec.xor_self, BitVec.xor_zero]; exact one_ne _
    · by_cases hqr : q = r
      · subst hqr; rw [BitVec.xor_assoc, BitVec.xor_self, BitVec.xor_zero]; exact one_ne _
      · exact three_ne (by omega) (by omega) (by omega) (by omega) (by omega) (by omega)
end
section
open Go.RowKit

/-- The sums of four bits. -/
def tabN (k : Nat) : Int := (it zs 4 (BitVec.ofNat 32 k)).toNat
def tabA (n : Nat) : Array Value := ((List.range 16).map fun j => if j < n then Value.int .u32 (tabN j) else .int .u32 0).toArray
theorem tabA_zero : #[.int .u32 0, .int .u32 0, .int .u32 0, .int .u32 0, .int .u32 0, .int .u32 0, .int .u32 0, .int .u32 0, .int .u32 0, .int .u32 0, .int .u32 0, .int .u32 0, .int .u32 0, .int .u32 0, .int .u32 0, .int .u32 0] = tabA 0 := by rfl
@[simp] theorem tabA_size (n : Nat) : (tabA n).size = 16 := by simp [tabA]
theorem tabA_get (n j : Nat) (h : j < 16) : (tabA n)[j]? = some (if j < n then Value.int .u32 (tabN j) else .int .u32 0) := by
  simp [tabA, h]
theorem tabA_set (k : Nat) (h : k < 16) : (tabA k).setIfInBounds k (.int .u32 (tabN k)) = tabA (k + 1) := by
  apply Array.ext_getElem?
  intro i
  by_cases hi : i < 16
  · rw [Array.getElem?_setIfInBounds, tabA_get _ i hi, tabA_get _ i hi]
    by_cases hk : k = i
    · subst hk; simp [h]
    · rw [if_neg hk]
      congr 1
      by_cases h1 : i < k
      · rw [if_pos h1, if_pos (by omega)]
      · rw [if_neg h1, if_neg (by omega)]
  · rw [Array.getElem?_eq_none (by simp; omega), Array.getElem?_eq_none (by simp; omega)]
theorem tabA_one (n : Nat) : (tabA n).all (·.oneCell') = true := by
  rw [Array.all_eq_true]
  intro i hi
  have hi' : i < 16 := by simpa using hi
  have := tabA_get n i hi'
  rw [Array.getElem?_eq_getElem hi] at this
  simp only [Option.some.injEq] at this
  rw [this]
  split <;> rfl

/-! The register's numbers as the walk spells them. -/
theorem u_xor (a b : BitVec 32) : Go.bits .xor .u32 (a.toNat : Int) (b.toNat : Int) = ((a ^^^ b).toNat : Int) := by
  rw [u32_xor_nat _ _ a.isLt b.isLt, BitVec.toNat_xor]
theorem u_and (a b : BitVec 32) : Go.bits .and .u32 (a.toNat : Int) (b.toNat : Int) = ((a &&& b).toNat : Int) := by
  rw [u32_and_nat _ _ a.isLt b.isLt, BitVec.toNat_and]
theorem u_or (a b : BitVec 32) : Go.bits .or .u32 (a.toNat : Int) (b.toNat : Int) = ((a ||| b).toNat : Int) := by
  rw [u32_or_nat _ _ a.isLt b.isLt, BitVec.toNat_or]

theorem u_shr (x : BitVec 32) (k : Nat) : (x.toNat : Int) / (2 ^ k : Nat) = ((x >>> k).toNat : Int) := by
  rw [BitVec.toNat_ushiftRight, Nat.shiftRight_eq_div_pow]
  simp
theorem half_step (x : BitVec 32) : bits BinOp.xor IntKind.u32 ((x.toNat : Int) / 2) (bits BinOp.and IntKind.u32 (-bits BinOp.and IntKind.u32 (x.toNat : Int) 1 % 4294967296) 3988292384) = ((zs x).toNat : Int) := by
  have e1 := u_and x 1#32
  have e2 := u_shr x 1
  rw [show ((1#32).toNat : Int) = 1 by decide] at e1
  rw [show ((2 ^ 1 : Nat) : Int) = 2 by decide] at e2
  rw [e1, e2]
  unfold zs
  by_cases hb : x.getLsbD 0 = true
  · have h1 : x &&& 1#32 = 1#32 := by
      apply BitVec.eq_of_getLsbD_eq
      intro i hi
      cases i with
      | zero => simp only [BitVec.getLsbD_and, hb]; rfl
      | succ i => simp
    rw [h1, if_pos hb]
    have e3 := u_and (4294967295#32) (0xedb88320#32)
    have e4 := u_xor (x >>> 1) (0xedb88320#32)
    rw [← e4]
    congr 1
  · have h1 : x &&& 1#32 = 0#32 := by
      apply BitVec.eq_of_getLsbD_eq
      intro i hi
      cases i with
      | zero => simp only [BitVec.getLsbD_and, Bool.eq_false_iff.2 hb]; rfl
      | succ i => simp
    rw [h1, if_neg hb]
    have e4 := u_xor (x >>> 1) (0#32)
    rw [BitVec.xor_zero] at e4
    rw [← e4]
    congr 1
theorem shl_step (y : BitVec 32) (j : Nat) (hy : ∀ i, 31 - j ≤ i → y.getLsbD i = false) : zs (y <<< (j + 1)) = y <<< j := by
  have h0 : (y <<< (j + 1)).getLsbD 0 = false := by rw [BitVec.getLsbD_shiftLeft]; simp
  unfold zs
  rw [h0]
  apply BitVec.eq_of_getLsbD_eq
  intro i hi
  simp only [Bool.false_eq_true, if_false, BitVec.getLsbD_ushiftRight, BitVec.getLsbD_shiftLeft]
  by_cases hij : i < j
  · simp [hij, show 1 + i < j + 1 by omega]
  · by_cases h31 : i = 31
    · subst h31
      rw [hy (31 - j) (by omega)]
      simp
    · simp [hij, show ¬ (1 + i < j + 1) by omega, hi, show 1 + i < 32 by omega, show 1 + i - (j + 1) = i - j by omega]
/-- Four bits at once. -/
theorem tab_step (x : BitVec 32) : bits BinOp.xor IntKind.u32 ((x.toNat : Int) / 16) (tabN (x.toNat % 16)) = ((it zs 4 x).toNat : Int) := by
  have e2 := u_shr x 4
  rw [show ((2 ^ 4 : Nat) : Int) = 16 by decide] at e2
  rw [e2]
  unfold tabN
  rw [u_xor]
  have hx : x = (x >>> 4) <<< 4 ^^^ BitVec.ofNat 32 (x.toNat % 16) := by
    apply BitVec.eq_of_getLsbD_eq
    intro i hi
    rw [BitVec.getLsbD_xor, BitVec.getLsbD_shiftLeft, BitVec.getLsbD_ushiftRight]
    have h16 : (BitVec.ofNat 32 (x.toNat % 16)).getLsbD i = (decide (i < 4) && x.getLsbD i) := by
      rw [BitVec.getLsbD_ofNat, show 16 = 2 ^ 4 from rfl, Nat.testBit_mod_two_pow]
      simp [hi]
      rfl
    rw [h16]
    by_cases h4 : i < 4
    · simp [h4]
    · simp [h4, hi]
      rw [show 4 + (i - 4) = i by omega]
      exact (BitVec.getLsbD_eq_getElem hi).symm
  have hs : it zs 4 ((x >>> 4) <<< 4) = x >>> 4 := by
    have hy : ∀ i, 28 ≤ i → (x >>> 4).getLsbD i = false := fun i hi => by rw [BitVec.getLsbD_ushiftRight]; exact BitVec.getLsbD_of_ge _ _ (by omega)
    generalize x >>> 4 = y at hy
    show zs (zs (zs (zs (y <<< 4)))) = y
    rw [shl_step y 3 (fun i hi => hy i (by omega)), shl_step y 2 (fun i hi => hy i (by omega)), shl_step y 1 (fun i hi => hy i (by omega)), shl_step y 0 (fun i hi => hy i (by omega))]
    simp
  conv => rhs; rw [hx, it_xor, hs]

theorem halves_any (w : World) : Calls Tryd.prog 82 #[] w fun e w' => e = .returned (.agg (tabA 16)) ∧ Fr (fun _ => False) w w' := by
  go_enter Tryd.func82, Tryd.ntmps82
  go_wp2_with fail
  rw [tabA_zero]
  have b0 := ((Fr.refl (fun _ => False) (w.alloc (.cells (tabA 0) 141))).alloc (.cells (tabA 0) 141)).heap (heap_alloc_new w (.cells (tabA 0) 141)) not_false
  have b1 := heap_alloc2_new w (.cells (tabA 0) 141) (.cells (tabA 0) 141)
  have bf := ((Fr.refl (fun _ => False) w).alloc (.cells (tabA 0) 141)).alloc (.cells (tabA 0) 141)
  generalize (w.alloc (.cells (tabA 0) 141)).alloc (.cells (tabA 0) 141) = W at *
  have H0 := hid b0; have H1 := hid b1; have HF := hid bf
  clear b0 b1 bf
  go_loopw [4] (fun i wr => ∃ k : Nat, k ≤ 16 ∧ i = .int .i64 k ∧ Hid (wr.heap[w.heap.size]? = some (.cells (tabA 0) 141 (0, 0))) ∧ Hid (wr.heap[w.heap.size + 1]? = some (.cells (tabA k) 141 (0, 0))) ∧ Fr (fun _ => False) w wr) (fun i _ => 16 - (intOf i).toNat)
  case atStart => exact ⟨0, by omega, rfl, H0, H1, HF.out⟩
  case round =>
    clear H0 H1 HF
    obtain ⟨k, hk, rfl, h0, h1, hf⟩ := hrel
    by_cases hlt : k < 16
    · have HF := hid hf
      clear hf
      go_wp2_with fail
      go_loop [3, 9] (fun x i => ∃ j : Nat, j ≤ 4 ∧ i = .int .i64 j ∧ x = .int .u32 ((it zs j (BitVec.ofNat 32 k)).toNat : Nat)) (fun x i => 4 - (intOf i).toNat)
      case atStart => exact ⟨0, by omega, rfl, by simp [it]; omega⟩
      case round =>
        obtain ⟨j, hj, rfl, rfl⟩ := hrel
        by_cases hlt2 : j < 4
        · have hj1 : it zs (j + 1) (BitVec.ofNat 32 k) = zs (it zs j (BitVec.ofNat 32 k)) := rfl
          generalize it zs j (BitVec.ofNat 32 k) = x at *
          have HJ := hid hj1
          clear hj1
          go_wp2_with fail
          go_round
          case rel =>
            refine ⟨j + 1, by omega, by go_num, ?_⟩
            rw [HJ.out, half_step]
          case measure => simp [intOf]; omega
        · obtain rfl : j = 4 := by omega
          have hc : wr.cell? ⟨w.heap.size + 1, k, none⟩ = some (.int .u32 0) := by rw [cell_of_row _ _ _ _ _ _ h1.out, tabA_get _ _ hlt, if_neg (by omega)]
          have hz : wr.frozen? ⟨w.heap.size + 1, k, none⟩ = false := frozen_of_row _ _ _ _ _ h1.out
          go_wp2_with fail
          go_roundw
          case rel => exact ⟨k + 1, by omega, by go_num, hid ((heap_setCell_other _ _ _ _ (by simp)).trans h0.out), hid (by
            have := setCell_row k (.int .u32 (tabN k)) h1.out
            rw [tabA_set k hlt] at this
            exact this), HF.out.setCell (.inr (by simp)) _⟩
          case measure => simp [intOf]; omega
    · obtain rfl : k = 16 := by omega
      have hlt' : decide ((16:Int) < 16) = false := by decide
      go_wp2_with (first | (refine wpList_load_row rfl 141 (.tmp 1) rfl (w.heap.size + 1) rfl 141 (tabA 16) (0, 0) _ h1.out Tryd.underlying141 rfl (by rw [tabA_size]; kernel_rfl) ?_) | (refine wpList_store_row rfl 141 (.tmp 0) (.tmp 23) rfl w.heap.size (tabA 16) rfl rfl 141 (tabA 0) h0.out (by rw [tabA_size]; kernel_rfl) (by simp) (tabA_one _) ?_))
      refine bodyPost_ret (results_cell_row rfl _ _ w.heap.size _ _ _ _ rfl (setRow_block h0.out) Tryd.underlying141 rfl (by rw [tabA_size]; kernel_rfl)) rfl ?_
      exact ⟨rfl, hf.setRow (.inr (Nat.le_refl _)) _⟩

/-! ### The sum -/
def crcB (c : BitVec 32) (b : UInt8) : BitVec 32 := it zs 8 (c ^^^ BitVec.ofNat 32 b.toNat)
def crc (c : BitVec 32) (l : List UInt8) : BitVec 32 := l.foldl crcB c
def sumB (l : List UInt8) : BitVec 32 := ~~~ (crc 4294967295#32 l)
theorem crc_take (c : BitVec 32) (l : List UInt8) (k : Nat) (h : k < l.length) : crc c (l.take (k + 1)) = crcB (crc c (l.take k)) (l.getD k 0) := by
  rw [take_snoc l k 0 h]
  simp only [crc, List.foldl_append, List.foldl_cons, List.foldl_nil]
theorem u_byte (b : UInt8) : ((b.toNat : Nat) : Int) = ((BitVec.ofNat 32 b.toNat).toNat : Int) := by
  have := b.toNat_lt
  rw [BitVec.toNat_ofNat, Nat.mod_eq_of_lt (by omega)]
theorem u_lt (x : BitVec 32) : (x.toNat : Int) < 4294967296 := by
  have := x.isLt
  omega

theorem u_and15 (y : BitVec 32) : bits BinOp.and IntKind.u32 (y.toNat : Int) 15 = ((y.toNat % 16 : Nat) : Int) := by
  have h := u_and y 15#32
  rw [show ((15#32).toNat : Int) = 15 by decide] at h
  rw [h, BitVec.toNat_and]
  congr 1
  rw [show (15#32).toNat = 2 ^ 4 - 1 by decide, Nat.and_two_pow_sub_one_eq_mod]
theorem u_not (x : BitVec 32) : bits BinOp.xor IntKind.u32 IntKind.u32.max (x.toNat : Int) = ((~~~x).toNat : Int) := by
  have h := u_xor (BitVec.allOnes 32) x
  rw [BitVec.allOnes_xor] at h
  exact h
theorem crc_two (x : BitVec 32) (b : UInt8) : crcB x b = it zs 4 (it zs 4 (x ^^^ BitVec.ofNat 32 b.toNat)) := by
  unfold crcB
  rw [← it_add]
theorem tab_cell {W : World} {g t : Nat} {fz : Nat × Nat} (h : W.heap[g]? = some (.cells (tabA 16) t fz)) (y : BitVec 32) : W.cell? ⟨g, y.toNat % 16, none⟩ = some (.int .u32 (tabN (y.toNat % 16))) := by
  rw [cell_of_row _ _ _ _ _ _ h, tabA_get _ _ (by omega), if_pos (by omega)]

theorem sum_any (D : Nat → Prop) (v : Value) (l : List UInt8) (w : World) (hB : Bs D w v l) :
    Calls Tryd.prog 65 #[v] w fun e w' => e = .returned (.int .u32 ((sumB l).toNat : Nat)) ∧ Fr (fun _ => False) w w' := by
  obtain ⟨a, c, rfl, hlc, hcm, hk⟩ := hB
  have hm' : l.length ≤ 9223372036854775807 := Nat.le_trans hlc hcm
  have HK := hid hk
  clear hk
  go_enter Tryd.func65, Tryd.ntmps65
  go_wp2_with fail
  refine (halves_any _).mono ?_
  rintro e w1 ⟨rfl, hf1⟩
  have hr := heap_alloc_new w1 (.cells (tabA 0) 141)
  have hW := (hf1.alloc (.cells (tabA 0) 141)).setRow (.inr (show w.heap.size ≤ w1.heap.size from hf1.size)) (tabA 16)
  have hrow := setRow_block (cs := tabA 16) hr
  have HR := hid hr; have HW := hid hW; have HRow := hid hrow
  clear hf1 hr hW hrow
  rw [← tabA_zero] at HR HW HRow
  go_wp2_with (refine wpList_store_row rfl 141 (.tmp 3) (.tmp 7) rfl w1.heap.size (tabA 16) rfl rfl 141 _ HR.out (by rw [tabA_size]; kernel_rfl) (by simp) (tabA_one _) ?_)
  generalize (w1.alloc (.cells _ 141)).setRow w1.heap.size (tabA 16) = W at *
  clear HR
  generalize w1.heap.size = g at *
  go_loop [4, 10] (fun x i => ∃ k : Nat, k ≤ l.length ∧ i = .int .i64 k ∧ x = .int .u32 ((crc 4294967295#32 (l.take k)).toNat : Nat)) (fun _ i => l.length - (intOf i).toNat)
  case atStart => exact ⟨0, by omega, rfl, rfl⟩
  case round =>
    obtain ⟨k, hkl, rfl, rfl⟩ := hrel
    by_cases hlt : k < l.length
    · have hst := crc_take 4294967295#32 l k hlt
      obtain ⟨b, o, rfl, hDb, hcw⟩ := HK.out k hlt
      have hcr := HW.out.cell hcw not_false
      have hby := u_byte (l.getD k 0)
      have hb1 := (l.getD k 0).toNat_lt
      generalize l.getD k 0 = ch at *
      generalize crc 4294967295#32 (l.take k) = x at *
      have e0 : bits BinOp.xor IntKind.u32 (x.toNat : Int) (ch.toNat : Int) = ((x ^^^ BitVec.ofNat 32 ch.toNat).toNat : Int) := by rw [hby, u_xor]
      clear hby hcw
      have HS := hid hst
      clear hst
      generalize hy : x ^^^ BitVec.ofNat 32 ch.toNat = y at *
      have HY := hid hy
      clear hy
      have a1 := u_and15 y
      have l1 := tab_cell HRow.out y
      have t1 := tab_step y
      have hz : it zs 4 y = it zs 4 y := rfl
      generalize hz : it zs 4 y = z at t1
      have HZ := hid hz
      clear hz
      have m1 : y.toNat % 16 < 16 := Nat.mod_lt _ (by decide)
      have m2 : z.toNat % 16 < 16 := Nat.mod_lt _ (by decide)
      have a2 := u_and15 z
      have l2 := tab_cell HRow.out z
      have t2 := tab_step z
      generalize y.toNat % 16 = q1 at *
      generalize z.toNat % 16 = q2 at *
      go_wp2_with fail
      go_round
      case rel =>
        refine ⟨k + 1, by omega, by go_num, ?_⟩
        rw [HS.out, crc_two, HY.out, HZ.out]
      case measure => simp [intOf]; omega
    · obtain rfl : k = l.length := by omega
      rw [List.take_length]
      have hs : bits BinOp.xor IntKind.u32 IntKind.u32.max ((crc 4294967295#32 l).toNat : Int) = ((sumB l).toNat : Int) := u_not _
      have hsg : IntKind.u32.signed = false := rfl
      generalize crc 4294967295#32 l = x at *
      generalize hy : sumB l = y at hs
      have HY := hid hy
      clear hy
      go_wp2_with fail
      go_ret
      exact ⟨ret_int (by rw [HY.out]), HW.out⟩
end
section
open Go.RowKit

/-! ### Four bytes, the lowest first -/
def le4 (n : Nat) : List UInt8 := [UInt8.ofNat n, UInt8.ofNat (n / 256), UInt8.ofNat (n / 65536), UInt8.ofNat (n / 16777216)]
def n4 (l : List UInt8) : Nat := (l.getD 0 0).toNat + 256 * (l.getD 1 0).toNat + 65536 * (l.getD 2 0).toNat + 16777216 * (l.getD 3 0).toNat
@[simp] theorem le4_length (n : Nat) : (le4 n).length = 4 := rfl
theorem n4_lt (l : List UInt8) : n4 l < 4294967296 := by
  have h0 := (l.getD 0 0).toNat_lt
  have h1 := (l.getD 1 0).toNat_lt
  have h2 := (l.getD 2 0).toNat_lt
  have h3 := (l.getD 3 0).toNat_lt
  unfold n4
  omega
theorem n4_le4 (n : Nat) (h : n < 4294967296) : n4 (le4 n) = n := by
  simp [n4, le4]
  omega

theorem join4 {x0 x1 x2 x3 : Nat} (b0 : x0 < 2 ^ 8) (b1 : x1 < 2 ^ 8) (b2 : x2 < 2 ^ 8) (b3 : x3 < 2 ^ 8) :
    bits BinOp.or IntKind.u32 (bits BinOp.or IntKind.u32 (bits BinOp.or IntKind.u32 (x0 : Int) ((x1 : Int) * 256)) ((x2 : Int) * 65536)) ((x3 : Int) * 16777216) = ((x0 + 256 * x1 + 65536 * x2 + 16777216 * x3 : Nat) : Int) := by
  have h : ∀ (i a b : Nat), a < 2 ^ i → a ||| b * 2 ^ i = a + b * 2 ^ i := fun i a b ha => by
    rw [Nat.or_comm, Nat.mul_comm, ← Nat.two_pow_add_eq_or_of_lt ha, Nat.add_comm]
  have h1 := h 8 x0 x1 b0
  have h2 := h 16 (x0 + x1 * 2 ^ 8) x2 (by omega)
  have h3 := h 24 (x0 + x1 * 2 ^ 8 + x2 * 2 ^ 16) x3 (by omega)
  rw [show (x1 : Int) * 256 = ((x1 * 2 ^ 8 : Nat) : Int) by omega, show (x2 : Int) * 65536 = ((x2 * 2 ^ 16 : Nat) : Int) by omega, show (x3 : Int) * 16777216 = ((x3 * 2 ^ 24 : Nat) : Int) by omega]
  rw [u32_or_nat _ _ (by omega) (by omega), h1, u32_or_nat _ _ (by omega) (by omega), h2, u32_or_nat _ _ (by omega) (by omega), h3]
  omega

theorem fnumber_any (D : Nat → Prop) (v : Value) (l : List UInt8) (w : World) (hB : Bs D w v l) (h4 : 4 ≤ l.length) :
    Calls Tryd.prog 99 #[v] w fun e w' => e = .returned (.int .u32 (n4 l : Nat)) ∧ ∃ n, w.drewN n = w' := by
  obtain ⟨a, c, rfl, hlc, hcm, hk⟩ := hB
  have hm' : l.length ≤ 9223372036854775807 := Nat.le_trans hlc hcm
  obtain ⟨b, o, rfl, _, c0⟩ := hk 0 (by omega)
  have cx : ∀ k, k < l.length → w.cell? ⟨b, o + k, none⟩ = some (.int .u8 (l.getD k 0).toNat) := fun k hk' => by
    obtain ⟨b', o', e, _, hc⟩ := hk k hk'
    simp only [Option.some.injEq, Addr.mk.injEq] at e
    obtain ⟨rfl, rfl, _⟩ := e
    exact hc
  have c1 := cx 1 (by omega)
  have c2 := cx 2 (by omega)
  have c3 := cx 3 (by omega)
  clear cx hk
  rw [Nat.add_zero] at c0
  have hn : n4 l = (l.getD 0 0).toNat + 256 * (l.getD 1 0).toNat + 65536 * (l.getD 2 0).toNat + 16777216 * (l.getD 3 0).toNat := rfl
  have b0 := (l.getD 0 0).toNat_lt
  have b1 := (l.getD 1 0).toNat_lt
  have b2 := (l.getD 2 0).toNat_lt
  have b3 := (l.getD 3 0).toNat_lt
  generalize (l.getD 0 0).toNat = x0 at *
  generalize (l.getD 1 0).toNat = x1 at *
  generalize (l.getD 2 0).toNat = x2 at *
  generalize (l.getD 3 0).toNat = x3 at *
  have HN := hid hn
  clear hn
  go_enter Tryd.func99, Tryd.ntmps99
  go_wp2_with fail
  go_quiet (fail)
  go_wp2
  go_ret
  refine ⟨ret_int ?_, _, rfl⟩
  rw [HN.out]
  exact join4 b0 b1 b2 b3
/-! ### Owned bytes -/
theorem le4_bV (n : Nat) (hn : n < 4294967296) : bV (le4 n) = [.int .u8 ((n : Int) % 256), .int .u8 ((n : Int) / 256 % 256), .int .u8 ((n : Int) / 65536 % 256), .int .u8 ((n : Int) / 16777216)] := by
  simp [bV, le4]
  omega

theorem little_any (base : Nat) (v : Value) (l : List UInt8) (n : Nat) (w : World) (h : OB base w v l) (hn : n < 4294967296) (hl : l.length ≤ 1073741824) (hb : base ≤ w.heap.size) :
    Calls Tryd.prog 52 #[v, .int .u32 n] w fun e w' => ∃ v', e = .returned v' ∧ OB base w' v' (l ++ le4 n) ∧ Fr (fun k => some k = v.ownBlock) w w' := by
  have hq := le4_bV n hn
  have hc : ∀ j, j < 4 → ∃ b o, (some ⟨w.heap.size, 0, none⟩ : Option Addr) = some ⟨b, o, none⟩ ∧ (w.alloc (.cells #[.int .u8 ((n : Int) % 256), .int .u8 ((n : Int) / 256 % 256), .int .u8 ((n : Int) / 65536 % 256), .int .u8 ((n : Int) / 16777216)] 5)).cell? ⟨b, o + j, none⟩ = (bV (le4 n))[j]? := by
    intro j hj
    refine ⟨_, _, rfl, ?_⟩
    rw [hq, Nat.zero_add, cell_of_row _ _ _ _ _ _ (heap_alloc_new w _)]
    simp
  have ho : (w.alloc (.cells #[.int .u8 ((n : Int) % 256), .int .u8 ((n : Int) / 256 % 256), .int .u8 ((n : Int) / 65536 % 256), .int .u8 ((n : Int) / 16777216)] 5)).ownsRow base 5 1 v l.length (bV l) := h.alloc _
  have hF := (Fr.refl (fun k => some k = v.ownBlock) w).alloc (.cells #[.int .u8 ((n : Int) % 256), .int .u8 ((n : Int) / 256 % 256), .int .u8 ((n : Int) / 65536 % 256), .int .u8 ((n : Int) / 16777216)] 5)
  have h1 : ∀ u ∈ bV (le4 n), u.oneCell' = true := by
    intro u hu
    simp only [bV, List.mem_map] at hu
    obtain ⟨_, _, rfl⟩ := hu
    rfl
  have HC := hid hc
  have HO := hid ho
  have HF := hid hF
  have H1 := hid h1
  clear hq h hc ho hF h1
  go_enter Tryd.func52, Tryd.ntmps52
  go_wp2_with (at_builtin; go_must (refine wpList_appendN rfl (.tmp 5) (.tmp 17) 22 rfl 5 (.int .u8 0) 1 Tryd.underlying22 Tryd.info_byte rfl v rfl base l.length (bV l) HO.out (some ⟨w.heap.size, 0, none⟩) 4 4 (bV (le4 n)) rfl (by simp) (fun h => by cases h) HC.out H1.out (by omega) (by decide) (by simp; omega) ?_))
  intro v' w' ho' hf' _
  have HR := hid (HF.out.trans' hf')
  have HO' := hid ho'
  clear ho' hf'
  go_wp2
  go_ret
  refine ⟨v', rfl, ?_, HR.out⟩
  have := HO'.out
  simpa [OB, bV] using this
end
section
open Go.RowKit

theorem OB.snoc {base : Nat} {w : World} {v : Value} {l m : List UInt8} (h : w.ownsRow base 5 1 v (l.length + m.length) (bV l ++ bV m)) : OB base w v (l ++ m) := by
  simpa [OB, bV] using h

theorem zs_nat (x : BitVec 32) : (zs x).toNat = if x.toNat % 2 = 1 then (x >>> 1 ^^^ 0xedb88320#32).toNat else (x >>> 1).toNat := by
  unfold zs
  have : x.getLsbD 0 = decide (x.toNat % 2 = 1) := by
    rw [BitVec.getLsbD, Nat.testBit_zero]
  rw [this]
  by_cases h : x.toNat % 2 = 1 <;> simp [h]
theorem u_and1 (x : BitVec 32) : bits BinOp.and IntKind.u32 (x.toNat : Int) 1 = ((x.toNat % 2 : Nat) : Int) := by
  have h := u_and x 1#32
  rw [show ((1#32).toNat : Int) = 1 by decide] at h
  rw [h, BitVec.toNat_and, show (1#32).toNat = 2 ^ 1 - 1 by decide, Nat.and_two_pow_sub_one_eq_mod]
theorem seal_len (l : List UInt8) : (l ++ le4 (sumB l).toNat).length = l.length + 4 := by simp
/-- What is sealed. -/
def sealB (l : List UInt8) : List UInt8 := l ++ le4 (sumB l).toNat
theorem seal_any (D : Nat → Prop) (v : Value) (l : List UInt8) (w : World) (hB : Bs D w v l) (hl : l.length ≤ 1073741824) :
    Calls Tryd.prog 53 #[v] w fun e w' => ∃ v', e = .returned v' ∧ OB w.heap.size w' v' (sealB l) ∧ Fr (fun _ => False) w w' := by
  have HB := hid hB
  clear hB
  go_enter Tryd.func53, Tryd.ntmps53
  go_wp2_with fail
  refine (clone_any D v l w HB.out hl).mono ?_
  rintro e w1 ⟨v1, rfl, ho1, hf1⟩
  have HO1 := hid ho1; have HF1 := hid hf1
  clear ho1 hf1
  go_wp2_with fail
  refine (sum_any D v l w1 (HB.out.frame HF1.out (fun _ _ => not_false))).mono ?_
  rintro e w2 ⟨rfl, hf2⟩
  have HF2 := hid hf2
  clear hf2
  go_wp2_with fail
  refine (little_any w.heap.size v1 l (sumB l).toNat w2 (HF2.out.own HO1.out (fun _ _ => not_false)) (sumB l).isLt hl (by have := HF1.out.size; have := HF2.out.size; omega)).mono ?_
  rintro e w3 ⟨v3, rfl, ho3, hf3⟩
  have HO3 := hid ho3
  have HF3 := hid (OB.fr (HF1.out.trans' HF2.out) (HF2.out.own HO1.out (fun _ _ => not_false)) hf3)
  clear ho3 hf3
  go_wp2_with fail
  go_ret
  exact ⟨_, rfl, HO3.out, HF3.out⟩

end
section
open Go.RowKit

/-- What stands ahead of a sum, or the error's number. -/
def openB (l : List UInt8) : List UInt8 × Nat :=
  if l.length < 4 then ([], 101) else if n4 (l.drop (l.length - 4)) = (sumB (l.take (l.length - 4))).toNat then (l.take (l.length - 4), 0) else ([], 102)

theorem own_base {w : World} {b b' e size n : Nat} {v : Value} {xs : List Value} (h : w.ownsRow b e size v n xs) (hb : b' ≤ b) : w.ownsRow b' e size v n xs := by
  refine ⟨h.1, h.2.imp id ?_⟩
  rintro ⟨g, cap, cur, h1, h2, r⟩
  exact ⟨g, cap, cur, h1, Nat.le_trans hb h2, r⟩
theorem Bs.from {D : Nat → Prop} {w : World} {b o c : Nat} {l : List UInt8} (h : Bs D w (.slice (some ⟨b, o, none⟩) l.length c) l) (i : Nat) (hi : i < l.length) : Bs D w (.slice (some ⟨b, o + i, none⟩) (l.length - i) (c - i)) (l.drop i) := by
  have h0 := h
  obtain ⟨a0, c0, e, h1, h2, _⟩ := h0
  simp only [Value.slice.injEq] at e
  obtain ⟨rfl, _, rfl⟩ := e
  have := Bs.sub (a' := some ⟨b, o + i, none⟩) (c' := c - i) (len' := l.length - i) h i l.length (by omega) (Nat.le_refl _) rfl rfl (by rw [if_neg (by omega)]; simp only [Option.map_some]; exact congrArg some (by unfold Addr.add; split <;> simp_all))
  rwa [List.take_length] at this
theorem Bs.fupto {D : Nat → Prop} {w : World} {a : Option Addr} {c : Nat} {l : List UInt8} (h : Bs D w (.slice a l.length c) l) (i : Nat) (hi : i ≤ l.length) : Bs D w (.slice a i c) (l.take i) := by
  obtain ⟨a0, c0, e, h1, h2, hk⟩ := h
  simp only [Value.slice.injEq] at e
  obtain ⟨rfl, _, rfl⟩ := e
  refine ⟨a, c, by simp [Nat.min_eq_left hi], by simp; omega, h2, fun k hk' => ?_⟩
  have hki : k < i := by simp at hk'; omega
  obtain ⟨b, o, e, hD, hc⟩ := hk k (by omega)
  refine ⟨b, o, e, hD, ?_⟩
  rw [hc]
  simp [List.getD, List.getElem?_take, hki]

theorem open_any (D : Nat → Prop) (pa : Nat → Addr) (v : Value) (l : List UInt8) (w : World) (hB : Bs D w v l) (hl : l.length ≤ 1073741824) (hE : Sents w pa) :
    Calls Tryd.prog 100 #[v] w fun e w' => ∃ v', e = .returned (.tuple #[v', errV pa (openB l).2]) ∧ OB w.heap.size w' v' (openB l).1 ∧ Fr (fun _ => False) w w' := by
  have hB0 := hB
  obtain ⟨a, c, rfl, hlc, hcm, hk⟩ := hB
  have e0 : w.cell? ⟨7, 0, none⟩ = some (.iface 168 (.pointer (some (pa 0)))) := hE 0 (by decide)
  have e1 : w.cell? ⟨6, 0, none⟩ = some (.iface 168 (.pointer (some (pa 1)))) := hE 1 (by decide)
  by_cases h4 : l.length < 4
  · have hr : openB l = ([], 101) := by simp [openB, h4]
    rw [hr]
    have hm : decide ((l.length : Int) - 4 < 0) = true := by simp; omega
    have HH := hid hr
    clear hE hB0 hk hr
    go_enter Tryd.func100, Tryd.ntmps100
    go_wp2_with fail
    go_quiet (fail)
    go_wp2
    go_ret2
    exact ⟨_, rfl, World.ownsRow_nil _ _ _ _, (Fr.refl _ _).drewN _⟩
  · obtain ⟨n, hn⟩ : ∃ n, l.length = n + 4 := ⟨l.length - 4, by omega⟩
    obtain ⟨b, o, rfl, _, _⟩ := hk 0 (by omega)
    clear hk
    have hb1 := Bs.from hB0 n (by omega)
    have hb2 := Bs.fupto hB0 n (by omega)
    have hop : openB l = if n4 (l.drop n) = (sumB (l.take n)).toNat then (l.take n, 0) else ([], 102) := by
      unfold openB
      rw [if_neg h4, show l.length - 4 = n by omega]
    rw [hn] at hb1 ⊢
    rw [show n + 4 - n = 4 by omega] at hb1
    have hd4 : 4 ≤ (l.drop n).length := by simp; omega
    have htl : (l.take n).length ≤ 1073741824 := by simp; omega
    have hnb : n ≤ 1073741824 := by omega
    have hnc : n + 4 ≤ c := by omega
    unfold maxLen at hcm
    have hcn : ¬ c = n := by omega
    have hle : (n : Int) ≤ (n : Int) + 4 := by omega
    have hlc2 : n ≤ c := by omega
    have hlo := n4_lt (l.drop n)
    generalize hD : l.drop n = ld at *
    generalize hT : l.take n = lt at *
    generalize hx : n4 ld = x at *
    have hHX := hid hx; have HO := hid hop; have HB1 := hid hb1; have HB2 := hid hb2; have HDD := hid hD; have HTT := hid hT; have HN := hid hn; have HE := hid hE; have HB0 := hid hB0
    clear hx hop hb1 hb2 hD hT hn hE hB0
    go_enter Tryd.func100, Tryd.ntmps100
    go_upto_region 4 with fail
    refine wp_region_cls (fun w' => Fr (fun _ => False) w w') (by kernel_rfl) (by kernel_rfl) (Fr.refl _ _).drew ?_
    (refine q_take ?_ (by kernel_rfl) ?_ ?_; rotate_left; (· intro w' hS; go_simp; try with_reducible rfl); (try simp only [Act.put, List.setIfInBounds_toArray, List.set_cons_zero, List.set_cons_succ]))
    (refine q_take ?_ (by kernel_rfl) ?_ ?_; rotate_left; (· intro w' hS; go_simp; try with_reducible rfl); (try simp only [Act.put, List.setIfInBounds_toArray, List.set_cons_zero, List.set_cons_succ]))
    (refine q_take ?_ (by kernel_rfl) ?_ ?_; rotate_left; (· intro w' hS; go_simp; try with_reducible rfl); (try simp only [Act.put, List.setIfInBounds_toArray, List.set_cons_zero, List.set_cons_succ]))
    (refine q_call ?_ ?_ (by kernel_rfl) ?_ ?_; rotate_left 2; (· intro w' hS; go_simp; first | with_reducible rfl | (constructor <;> with_reducible rfl)); (refine ⟨_, fun w' hw => (fnumber_any D _ ld w' (HB1.out.frame hw (fun _ _ => not_false)) hd4).mono fun _ _ h => ⟨by rw [h.1, hHX.out], by obtain ⟨n, rfl⟩ := h.2; exact hw.drewN n⟩, ?_⟩); (try simp only [Act.put, List.setIfInBounds_toArray, List.set_cons_zero, List.set_cons_succ]))
    (refine q_take ?_ (by kernel_rfl) ?_ ?_; rotate_left; (· intro w' hS; go_simp; try with_reducible rfl); (try simp only [Act.put, List.setIfInBounds_toArray, List.set_cons_zero, List.set_cons_succ]))
    (refine q_take ?_ (by kernel_rfl) ?_ ?_; rotate_left; (· intro w' hS; go_simp; try with_reducible rfl); (try simp only [Act.put, List.setIfInBounds_toArray, List.set_cons_zero, List.set_cons_succ]))
    (refine q_take ?_ (by kernel_rfl) ?_ ?_; rotate_left; (· intro w' hS; go_simp; try with_reducible rfl); (try simp only [Act.put, List.setIfInBounds_toArray, List.set_cons_zero, List.set_cons_succ]))
    (refine q_call ?_ ?_ (by kernel_rfl) ?_ ?_; rotate_left 2; (· intro w' hS; go_simp; first | with_reducible rfl | (constructor <;> with_reducible rfl)); (refine ⟨_, fun w' hw => (sum_any D _ lt w' (HB2.out.frame hw (fun _ _ => not_false))).mono fun _ _ h => ⟨h.1, hw.trans' h.2⟩, ?_⟩); (try simp only [Act.put, List.setIfInBounds_toArray, List.set_cons_zero, List.set_cons_succ]))
    (refine q_take ?_ (by kernel_rfl) ?_ ?_; rotate_left; (· intro w' hS; go_simp; try with_reducible rfl); (try simp only [Act.put, List.setIfInBounds_toArray, List.set_cons_zero, List.set_cons_succ]))
    refine q_end (fun W hw => ?_)
    have HW := hid hw
    clear hw
    by_cases hxe : x = (sumB lt).toNat
    · rw [if_pos hxe] at HO
      have hb : ((x : Int) != ((sumB lt).toNat : Int)) = false := by rw [bne_eq_false_iff_eq]; omega
      have HX := hid hxe
      clear hxe
      go_wp2_with fail
      refine (clone_any D _ lt W (HB2.out.frame HW.out (fun _ _ => not_false)) htl).mono ?_
      rintro e w3 ⟨v3, rfl, ho3, hf3⟩
      have HO3 := hid (own_base ho3 HW.out.size); have HF3 := hid (HW.out.trans' hf3)
      clear ho3 hf3
      go_wp2_with fail
      go_ret2
      refine ⟨v3, ?_, ?_, HF3.out⟩
      · rw [HO.out]; rfl
      · rw [HO.out]; exact HO3.out
    · rw [if_neg hxe] at HO
      have hb : ((x : Int) != ((sumB lt).toNat : Int)) = true := by rw [bne_iff_ne]; omega
      have HX := hid hxe
      have e1' := HW.out.cell e1 not_false
      clear hxe e0 e1
      go_wp2_with fail
      go_quiet (fail)
      go_wp2
      go_ret2
      refine ⟨.slice none 0 0, ?_, ?_, HW.out.drewN _⟩
      · rw [HO.out]; rfl
      · rw [HO.out]; exact World.ownsRow_nil _ _ _ _

end
section
open Go.RowKit

/-- The record at the beginning, how many bytes, the error's number. -/
def frecB (l : List UInt8) : List UInt8 × Nat × Nat :=
  if l.length < 4 then ([], 0, 101) else if 4194304 < n4 l then ([], 0, 104) else if l.length < n4 l + 8 then ([], 0, 101) else
  if (openB ((l.take (n4 l + 8)).drop 4)).2 = 0 then ((openB ((l.take (n4 l + 8)).drop 4)).1, n4 l + 8, 0) else ([], 0, (openB ((l.take (n4 l + 8)).drop 4)).2)
theorem openB_no (l : List UInt8) : ErrNo (openB l).2 := by
  unfold openB ErrNo
  split
  · simp
  · split <;> simp
theorem errV_eq (pa : Nat → Addr) (w : World) (m : Nat) (h : m ≠ 0) : (binOp .neq 26 (errV pa m) .nilIface).run Tryd.prog w = .ok (.bool true) w := by
  unfold errV
  rw [if_neg h]
  kernel_rfl

theorem fread_any (D : Nat → Prop) (pa : Nat → Addr) (v : Value) (l : List UInt8) (w : World) (hB : Bs D w v l) (hl : l.length ≤ 1073741824) (hE : Sents w pa) :
    Calls Tryd.prog 81 #[v] w fun e w' => ∃ v', e = .returned (.tuple #[v', .int .i64 (frecB l).2.1, errV pa (frecB l).2.2]) ∧ OB w.heap.size w' v' (frecB l).1 ∧ Fr (fun _ => False) w w' := by
  have hB0 := hB
  obtain ⟨a, c, rfl, hlc, hcm, hk⟩ := hB
  have e0 : w.cell? ⟨7, 0, none⟩ = some (.iface 168 (.pointer (some (pa 0)))) := hE 0 (by decide)
  have e3 : w.cell? ⟨8, 0, none⟩ = some (.iface 168 (.pointer (some (pa 3)))) := hE 3 (by decide)
  by_cases h4 : l.length < 4
  · have hr : frecB l = ([], 0, 101) := by simp [frecB, h4]
    have hm : decide (l.length < 4) = true := by simp; omega
    have HH := hid hr
    clear hE hB0 hk hr
    go_enter Tryd.func81, Tryd.ntmps81
    go_wp2_with fail
    go_quiet (fail)
    go_wp2
    go_ret3
    exact ⟨.slice none 0 0, by rw [HH.out]; rfl, by rw [HH.out]; exact World.ownsRow_nil _ _ _ _, (Fr.refl _ _).drewN _⟩
  · obtain ⟨b, o, rfl, _, _⟩ := hk 0 (by omega)
    clear hk
    have hn4 := fnumber_any D _ l w hB0 (by omega)
    have hlo := n4_lt l
    have hrd : frecB l = if 4194304 < n4 l then ([], 0, 104) else if l.length < n4 l + 8 then ([], 0, 101) else
      if (openB ((l.take (n4 l + 8)).drop 4)).2 = 0 then ((openB ((l.take (n4 l + 8)).drop 4)).1, n4 l + 8, 0) else ([], 0, (openB ((l.take (n4 l + 8)).drop 4)).2) := by
      conv => lhs; unfold frecB
      rw [if_neg h4]
    have hm : decide (l.length < 4) = false := by simp; omega
    generalize n4 l = x at *
    have HN := hid hn4; have HR := hid hrd; have HB := hid hB0; have HE := hid hE
    clear hn4 hrd hB0 hE
    by_cases h2 : 4194304 < x
    · rw [if_pos h2] at HR
      go_enter Tryd.func81, Tryd.ntmps81
      go_wp2_with fail
      refine HN.out.mono ?_
      rintro e w1 ⟨rfl, n, rfl⟩
      go_wp2_with fail
      go_quiet (fail)
      go_wp2
      go_ret3
      exact ⟨.slice none 0 0, by rw [HR.out]; rfl, by rw [HR.out]; exact World.ownsRow_nil _ _ _ _, ((Fr.refl _ _).drewN _).drewN _⟩
    · rw [if_neg h2] at HR
      have h2' : ¬ (4194304 : Int) < x := by omega
      by_cases h3 : l.length < x + 8
      · rw [if_pos h3] at HR
        go_enter Tryd.func81, Tryd.ntmps81
        go_wp2_with fail
        refine HN.out.mono ?_
        rintro e w1 ⟨rfl, n, rfl⟩
        go_wp2_with fail
        go_quiet (fail)
        go_wp2
        go_ret3
        exact ⟨.slice none 0 0, by rw [HR.out]; rfl, by rw [HR.out]; exact World.ownsRow_nil _ _ _ _, ((Fr.refl _ _).drewN _).drewN _⟩
      · rw [if_neg h3] at HR
        unfold maxLen at hcm
        have hq : Bs D w (.slice (some ⟨b, o + 4, none⟩) (x + 4) (c - 4)) ((l.take (x + 8)).drop 4) := by
          have h1 := Bs.fupto HB.out (x + 8) (by omega)
          have hL : (l.take (x + 8)).length = x + 8 := by simp; omega
          have h2 := Bs.from (l := l.take (x + 8)) (b := b) (o := o) (c := c) (by rw [hL]; exact h1) 4 (by omega)
          rw [hL, show x + 8 - 4 = x + 4 by omega] at h2
          exact h2
        have hql : ((l.take (x + 8)).drop 4).length ≤ 1073741824 := by simp; omega
        have hc4 : ¬ c = 4 := by omega
        have hx4 : ¬ 4194304 < (x : Int) := by omega
        have hx8 : ¬ (l.length : Int) < (x : Int) + 8 := by omega
        have hx9 : x + 8 ≤ c := by omega
        have hx10 : (4 : Int) ≤ (x : Int) + 8 := by omega
        generalize (l.take (x + 8)).drop 4 = q at *
        have hno := openB_no q
        have hop := fun w1 (hf : Fr (fun _ => False) w w1) => open_any D pa _ q w1 (hq.frame hf (fun _ _ => not_false)) hql (HE.out.frame hf)
        have HOP := hid hop; have HNO := hid hno; have HQ := hid hq
        clear hop hno hq hql
        have hfn := fun n => (Fr.refl (fun _ => False) w).drewN n
        have HFN := hid hfn
        clear hfn
        go_enter Tryd.func81, Tryd.ntmps81
        go_wp2_with fail
        refine HN.out.mono ?_
        rintro e w1 ⟨rfl, n, rfl⟩
        go_wp2_with fail
        refine (HOP.out _ (HFN.out n)).mono ?_
        rintro e w2 ⟨v2, rfl, ho2, hf2⟩
        have HO2 := hid ho2; have HF2 := hid ((HFN.out n).trans' hf2)
        clear ho2 hf2
        by_cases hm0 : (openB q).2 = 0
        · rw [if_pos hm0] at HR
          rw [hm0]
          have HM := hid hm0
          clear hm0
          unfold errV
          rw [if_pos rfl]
          go_wp2_with fail
          go_ret3
          exact ⟨v2, by rw [HR.out]; rfl, by rw [HR.out]; exact HO2.out, HF2.out⟩
        · rw [if_neg hm0] at HR
          have he : ∃ a, errV pa (openB q).2 = .iface 168 (.pointer (some a)) := ⟨_, by unfold errV; rw [if_neg hm0]⟩
          obtain ⟨ea, he⟩ := he
          rw [he]
          have HM := hid hm0; have HEA := hid he
          clear hm0 he
          go_wp2_with fail
          go_ret3
          exact ⟨.slice none 0 0, by rw [HR.out, ← HEA.out]; rfl, by rw [HR.out]; exact World.ownsRow_nil _ _ _ _, HF2.out⟩

/-! ### Put -/
def recB (r : List UInt8) : List UInt8 := le4 r.length ++ sealB r
def recsB (ls : List (List UInt8)) : List UInt8 := (ls.map recB).flatten
theorem recB_len (r : List UInt8) : (recB r).length = r.length + 8 := by simp [recB, sealB]; omega
theorem recsB_take (ls : List (List UInt8)) (k : Nat) (h : k < ls.length) : recsB (ls.take (k + 1)) = recsB (ls.take k) ++ recB (ls.getD k []) := by
  rw [take_snoc ls k [] h]
  simp [recsB]
theorem recsB_le (ls : List (List UInt8)) (k : Nat) : (recsB (ls.take k)).length ≤ (recsB ls).length := by
  have : recsB ls = recsB (ls.take k) ++ recsB (ls.drop k) := by
    simp only [recsB]
    rw [← List.flatten_append, ← List.map_append, List.take_append_drop]
  rw [this, List.length_append]
  omega
/-- A list of byte lists reads so in w; all of it lies where D says. -/
abbrev Bss (D : Nat → Prop) (w : World) (v : Value) (ls : List (List UInt8)) : Prop := Sl D w v ls.length (fun k u => Bs D w u (ls.getD k []))

theorem put_any (D E : Nat → Prop) (v vs : Value) (l : List UInt8) (ls : List (List UInt8)) (w : World) (hB : Bs D w v l) (hS : Bss E w vs ls) (hl : (l ++ recsB ls).length ≤ 1073741824) :
    Calls Tryd.prog 26 #[v, vs] w fun e w' => ∃ v', e = .returned v' ∧ OB w.heap.size w' v' (l ++ recsB ls) ∧ Fr (fun _ => False) w w' := by
  obtain ⟨a, c, rfl, hlc, hcm, hk⟩ := hS
  have hm' : ls.length ≤ 9223372036854775807 := Nat.le_trans hlc hcm
  simp only [List.length_append] at hl
  have HK := hid hk; have HB := hid hB
  clear hk hB
  go_enter Tryd.func26, Tryd.ntmps26
  go_wp2_with fail
  refine (clone_any D v l w HB.out (by omega)).mono ?_
  rintro e w1 ⟨v1, rfl, ho1, hf1⟩
  have HO1 := hid ho1; have HF1 := hid hf1
  clear ho1 hf1
  go_wp2_with fail
  go_loopw [5, 12] (fun v i wr => ∃ k : Nat, k ≤ ls.length ∧ i = .int .i64 k ∧ OB w.heap.size wr v (l ++ recsB (ls.take k)) ∧ Fr (fun _ => False) w wr) (fun _ i _ => ls.length - (intOf i).toNat)
  case atStart => exact ⟨0, Nat.zero_le _, rfl, by simpa [recsB] using HO1.out, HF1.out⟩
  case round =>
    clear HO1 HF1
    obtain ⟨k, hk, rfl, hO, hf⟩ := hrel
    by_cases hlt : k < ls.length
    · obtain ⟨b, o, u, rfl, hDb, hcw, hu⟩ := HK.out k hlt
      have hcr := hf.cell hcw not_false
      have ht := recsB_take ls k hlt
      have hle := recsB_le ls (k + 1)
      rw [ht, List.length_append, recB_len] at hle
      generalize ls.getD k [] = r at *
      have hu2 := hu
      obtain ⟨ra, rc, rfl, hrl, hrc, _⟩ := hu
      have hrb : r.length < 4294967296 := by omega
      have hln : (l ++ recsB (ls.take k)).length ≤ 1073741824 := by simp only [List.length_append]; omega
      have hl3 : (l ++ recsB (ls.take k)).length + 4 + (r.length + 4) ≤ 1099511627776 := by simp only [List.length_append]; omega
      have hrl2 : r.length ≤ 1073741824 := by omega
      have HT := hid ht; have HO := hid hO; have HF := hid hf; have HU := hid hu2; have HLE := hid hle; have HLN := hid hln; have HL3 := hid hl3
      clear ht hO hf hu2 hle hcw hln hl3
      go_wp2_with fail
      refine (little_any w.heap.size _ _ r.length wr HO.out hrb HLN.out HF.out.size).mono ?_
      rintro e w2 ⟨v2, rfl, ho2, hf2⟩
      have HF2 := hid (OB.fr HF.out HO.out hf2); have HO2 := hid ho2
      clear ho2 hf2
      go_wp2_with fail
      refine (seal_any E _ r w2 (HU.out.frame HF2.out (fun _ _ => not_false)) hrl2).mono ?_
      rintro e w3 ⟨v3, rfl, ho3, hf3⟩
      have HF3 := hid (HF2.out.trans' hf3)
      have HO3 := hid (hf3.own HO2.out (fun _ _ => not_false))
      obtain ⟨ao, c3, rfl, -, hn, hc⟩ := own_src ho3
      have HN := hid hn; have HC := hid hc
      clear ho3 hf3 hn hc
      have hsl : (sealB r).length = r.length + 4 := by simp [sealB]
      have HSL := hid hsl
      clear hsl
      go_wp2_with (at_builtin; go_must (refine wpList_appendN rfl (.tmp 20) (.tmp 22) 22 rfl 5 (.int .u8 0) 1 Tryd.underlying22 Tryd.info_byte rfl v2 rfl w.heap.size (l ++ recsB (ls.take k) ++ le4 r.length).length (bV (l ++ recsB (ls.take k) ++ le4 r.length)) HO3.out ao (sealB r).length c3 (bV (sealB r)) rfl (by simp) HN.out (by intro j hj; exact HC.out j hj) (bV_one _) (by rw [HSL.out]; have := HL3.out; simp at this ⊢; omega) (by decide) HF3.out.size ?_))
      intro v' w' ho' hf' _
      have hO4 : OB w.heap.size w' v' (l ++ recsB (ls.take (k + 1))) := by
        rw [HT.out, recB]
        simpa [OB, bV, List.append_assoc, Nat.add_assoc] using ho'
      have HF4 := hid (OB.fr HF3.out HO3.out hf')
      have HO4 := hid hO4
      clear ho' hf' hO4
      go_wp2
      go_roundw
      case rel => exact ⟨k + 1, by omega, by go_num, HO4.out, HF4.out⟩
      case measure => simp [intOf]; omega
    · obtain rfl : k = ls.length := by omega
      rw [List.take_length] at hO
      have HO := hid hO; have HF := hid hf
      clear hO hf
      go_wp2
      go_ret
      exact ⟨_, rfl, HO.out, HF.out⟩

end
section
open Go.RowKit

/-- A bit of bytes, the lowest of each first. -/
def bitAt (l : List UInt8) (j : Nat) : Bool := (l.getD (j / 8) 0).toNat.testBit (j % 8)
theorem S_word' {c : BitVec 32} {e : Nat → Bool} (k : Nat) : ∀ j, j ≤ 32 → S c e (k + j) = it zs j (S c e k ^^^ wd (fun i => e (k + i)) j)
  | 0, _ => by simp [wd, it]
  | j + 1, hj => by
    have h1 := S_word' (c := c) (e := e) k j (by omega)
    rw [← Nat.add_assoc]
    simp only [S, h1, wd, it_xor, it, zs_xor]
    have h2 := it_one_shift j (by omega)
    rw [BitVec.xor_assoc]
    congr 2
    by_cases he : e (k + j) = true
    · rw [if_pos he, h2, he]; rfl
    · rw [if_neg he, it_zero, Bool.eq_false_iff.2 he]; rfl
theorem byte_bits (c : BitVec 32) (b : UInt8) : crcB c b = S c (fun i => b.toNat.testBit i) 8 := by
  have h := S_word' (c := c) (e := fun i => b.toNat.testBit i) 0 8 (by decide)
  rw [Nat.zero_add] at h
  rw [h]
  unfold crcB
  congr 2
  apply BitVec.eq_of_getLsbD_eq
  intro i hi
  rw [wd_bit _ 8 (by decide) i hi, BitVec.getLsbD_ofNat]
  by_cases h8 : i < 8
  · simp [h8, hi]
  · have hb := b.toNat_lt
    have : b.toNat.testBit i = false := Nat.testBit_lt_two_pow (Nat.lt_of_lt_of_le hb (Nat.pow_le_pow_right (by decide) (by omega)))
    simp [h8, this]
theorem S_shift (c : BitVec 32) (e : Nat → Bool) (k : Nat) : ∀ m, S c e (k + m) = S (S c e k) (fun i => e (k + i)) m
  | 0 => rfl
  | m + 1 => by rw [← Nat.add_assoc]; simp only [S, S_shift c e k m]
theorem crc_bits : ∀ (l : List UInt8) (c : BitVec 32), crc c l = S c (bitAt l) (8 * l.length)
  | [], c => rfl
  | b :: l, c => by
    have h1 := crc_bits l (crcB c b)
    have e : crc c (b :: l) = crc (crcB c b) l := rfl
    rw [e, h1, List.length_cons, show 8 * (l.length + 1) = 8 + 8 * l.length by omega, S_shift, byte_bits]
    have e1 : S c (bitAt (b :: l)) 8 = S c (fun i => b.toNat.testBit i) 8 := S_congr (fun j hj => by
      unfold bitAt
      rw [show j / 8 = 0 by omega, show j % 8 = j by omega]
      rfl)
    rw [e1]
    apply S_congr
    intro j _
    unfold bitAt
    rw [show (8 + j) / 8 = j / 8 + 1 by omega, show (8 + j) % 8 = j % 8 by omega]
    rfl
theorem n4_bit (l : List UInt8) (i : Nat) (hi : i < 32) : (n4 l).testBit i = bitAt l i := by
  have h0 := (l.getD 0 0).toNat_lt
  have h1 := (l.getD 1 0).toNat_lt
  have h2 := (l.getD 2 0).toNat_lt
  have h3 := (l.getD 3 0).toNat_lt
  unfold bitAt n4
  have e : (l.getD 0 0).toNat + 256 * (l.getD 1 0).toNat + 65536 * (l.getD 2 0).toNat + 16777216 * (l.getD 3 0).toNat = 2 ^ 8 * (2 ^ 8 * (2 ^ 8 * (l.getD 3 0).toNat + (l.getD 2 0).toNat) + (l.getD 1 0).toNat) + (l.getD 0 0).toNat := by omega
  rw [e, Nat.testBit_two_pow_mul_add _ h0]
  by_cases c0 : i < 8
  · rw [if_pos c0, show i / 8 = 0 by omega, show i % 8 = i by omega]
  · rw [if_neg c0, Nat.testBit_two_pow_mul_add _ h1]
    by_cases c1 : i - 8 < 8
    · rw [if_pos c1, show i / 8 = 1 by omega, show i % 8 = i - 8 by omega]
    · rw [if_neg c1, Nat.testBit_two_pow_mul_add _ h2]
      by_cases c2 : i - 8 - 8 < 8
      · rw [if_pos c2, show i / 8 = 2 by omega, show i % 8 = i - 8 - 8 by omega]
      · rw [if_neg c2, show i / 8 = 3 by omega, show i % 8 = i - 8 - 8 - 8 by omega]

/-- It opens just if the register ends so. -/
theorem open_iff (t : List UInt8) (L : Nat) (h : t.length = L + 4) : (openB t).2 = 0 ↔ S 4294967295#32 (bitAt t) (8 * t.length) = it zs 32 (BitVec.allOnes 32) := by
  have e1 : (openB t).2 = 0 ↔ n4 (t.drop L) = (sumB (t.take L)).toNat := by
    unfold openB
    rw [if_neg (by omega), h, show L + 4 - 4 = L by omega]
    by_cases hx : n4 (t.drop L) = (sumB (t.take L)).toNat
    · rw [if_pos hx]; simp [hx]
    · rw [if_neg hx]; simp [hx]
  have hs : 8 * t.length = 8 * L + 32 := by omega
  rw [e1, hs, S_word' (8 * L) 32 (Nat.le_refl _)]
  have hc : crc 4294967295#32 (t.take L) = S 4294967295#32 (bitAt t) (8 * L) := by
    rw [crc_bits, List.length_take, Nat.min_eq_left (by omega)]
    apply S_congr
    intro j hj
    unfold bitAt
    have : (t.take L).getD (j / 8) 0 = t.getD (j / 8) 0 := by
      simp only [List.getD, List.getElem?_take]
      rw [if_pos (by omega)]
    rw [this]
  have hw : wd (fun i => bitAt t (8 * L + i)) 32 = BitVec.ofNat 32 (n4 (t.drop L)) := by
    apply BitVec.eq_of_getLsbD_eq
    intro i hi
    rw [wd_bit _ 32 (Nat.le_refl _) i hi, BitVec.getLsbD_ofNat, n4_bit _ i hi]
    simp only [hi, decide_true, Bool.true_and]
    unfold bitAt
    rw [show (8 * L + i) / 8 = L + i / 8 by omega, show (8 * L + i) % 8 = i % 8 by omega]
    simp only [List.getD, List.getElem?_drop]
  rw [hw, ← hc]
  have hlt := n4_lt (t.drop L)
  generalize n4 (t.drop L) = x at *
  unfold sumB
  generalize crc 4294967295#32 (t.take L) = c
  constructor
  · intro hx
    congr 1
    rw [hx, BitVec.ofNat_toNat, BitVec.setWidth_eq, ← BitVec.xor_allOnes, ← BitVec.xor_assoc, BitVec.xor_self, BitVec.zero_xor]
  · intro hx
    have h2 := it_eq 32 hx
    have h3 : BitVec.ofNat 32 x = ~~~c := by
      have : c ^^^ (c ^^^ BitVec.ofNat 32 x) = c ^^^ BitVec.allOnes 32 := by rw [h2]
      rw [← BitVec.xor_assoc, BitVec.xor_self, BitVec.zero_xor] at this
      rw [this, BitVec.xor_allOnes]
    rw [← h3, BitVec.toNat_ofNat, Nat.mod_eq_of_lt hlt]
theorem seal_opens (l : List UInt8) : openB (sealB l) = (l, 0) := by
  unfold openB sealB
  have h := n4_le4 (sumB l).toNat (sumB l).isLt
  simp [h]
/-- With the bits of D turned it opens just if D's bits end so. -/
theorem turned_iff (l t : List UInt8) (D : Nat → Bool) (ht : t.length = (sealB l).length) (hD : ∀ j, j < 8 * t.length → bitAt t j = (bitAt (sealB l) j ^^ D j)) : (openB t).2 = 0 ↔ S 0#32 D (8 * t.length) = 0#32 := by
  have hsl : (sealB l).length = l.length + 4 := by simp [sealB]
  have h0 := (open_iff (sealB l) l.length hsl).1 (by rw [seal_opens])
  rw [open_iff t l.length (by omega)]
  have e : S 4294967295#32 (bitAt t) (8 * t.length) = S (4294967295#32 ^^^ 0#32) (fun j => bitAt (sealB l) j ^^ D j) (8 * t.length) := by
    rw [BitVec.xor_zero]
    exact S_congr hD
  rw [e, S_xor, ht, h0]
  constructor
  · intro h
    have : it zs 32 (BitVec.allOnes 32) ^^^ (it zs 32 (BitVec.allOnes 32) ^^^ S 0#32 D (8 * (sealB l).length)) = it zs 32 (BitVec.allOnes 32) ^^^ it zs 32 (BitVec.allOnes 32) := by rw [h]
    rw [← BitVec.xor_assoc, BitVec.xor_self, BitVec.zero_xor] at this
    exact this
  · intro h
    rw [h, BitVec.xor_zero]
theorem bits_ext {s t : List UInt8} (h : s.length = t.length) (hb : ∀ j, j < 8 * s.length → bitAt s j = bitAt t j) : s = t := by
  apply List.ext_getElem h
  intro i h1 h2
  apply UInt8.toNat.inj
  apply Nat.eq_of_testBit_eq
  intro j
  by_cases hj : j < 8
  · have := hb (8 * i + j) (by omega)
    unfold bitAt at this
    rw [show (8 * i + j) / 8 = i by omega, show (8 * i + j) % 8 = j by omega] at this
    simpa [List.getD, h1, h2] using this
  · have hz : ∀ b : UInt8, b.toNat.testBit j = false := fun b => Nat.testBit_lt_two_pow (Nat.lt_of_lt_of_le b.toNat_lt (Nat.pow_le_pow_right (by decide) (by omega)))
    rw [hz, hz]
/-- A bit turned. -/
def flip (l : List UInt8) (p : Nat) : List UInt8 := l.set (p / 8) (l.getD (p / 8) 0 ^^^ UInt8.ofNat (2 ^ (p % 8)))
@[simp] theorem flip_length (l : List UInt8) (p : Nat) : (flip l p).length = l.length := by simp [flip]
theorem flip_bit (l : List UInt8) (p : Nat) (hp : p < 8 * l.length) (j : Nat) : bitAt (flip l p) j = (bitAt l j ^^ (j == p)) := by
  unfold bitAt flip
  by_cases h : j / 8 = p / 8
  · have e : (l.set (p / 8) (l.getD (p / 8) 0 ^^^ UInt8.ofNat (2 ^ (p % 8)))).getD (j / 8) 0 = l.getD (p / 8) 0 ^^^ UInt8.ofNat (2 ^ (p % 8)) := by
      rw [h]
      simp [List.getD, show p / 8 < l.length by omega]
    rw [e, UInt8.toNat_xor, Nat.testBit_xor, h]
    congr 1
    have hm : p % 8 < 8 := Nat.mod_lt _ (by decide)
    have e2 : (UInt8.ofNat (2 ^ (p % 8))).toNat = 2 ^ (p % 8) := by
      rw [UInt8.toNat_ofNat']
      exact Nat.mod_eq_of_lt (Nat.pow_lt_pow_right (by decide) hm)
    rw [e2, Nat.testBit_two_pow]
    by_cases hjp : j = p
    · subst hjp; simp
    · have : ¬ p % 8 = j % 8 := by omega
      simp [this, hjp]
  · have e : (l.set (p / 8) (l.getD (p / 8) 0 ^^^ UInt8.ofNat (2 ^ (p % 8)))).getD (j / 8) 0 = l.getD (j / 8) 0 := by
      simp only [List.getD]
      rw [List.getElem?_set_ne (by omega)]
    rw [e]
    have : (j == p) = false := by
      rw [beq_eq_false_iff_ne]
      intro e
      exact h (by rw [e])
    rw [this, Bool.xor_false]
theorem open_not {t : List UInt8} (h4 : 4 ≤ t.length) (h : (openB t).2 ≠ 0) : (openB t).2 = 102 := by
  unfold openB at h ⊢
  rw [if_neg (by omega)] at h ⊢
  split at h
  · exact absurd rfl h
  · rename_i hx
    rw [if_neg hx]
end
section
open Go.RowKit

theorem n4_app (n : Nat) (h : n < 4294967296) (x : List UInt8) : n4 (le4 n ++ x) = n := by
  simp [n4, le4]
  omega
theorem read_rec (r rest : List UInt8) (h : r.length ≤ 4194304) : frecB (recB r ++ rest) = (r, r.length + 8, 0) := by
  have e : recB r ++ rest = le4 r.length ++ (sealB r ++ rest) := by simp [recB]
  have hn : n4 (recB r ++ rest) = r.length := by rw [e, n4_app _ (by omega)]
  have hl : (recB r ++ rest).length = r.length + 8 + rest.length := by rw [List.length_append, recB_len]
  have hp : ((recB r ++ rest).take (r.length + 8)).drop 4 = sealB r := by
    rw [← recB_len r, List.take_left]
    unfold recB
    exact List.drop_left (l₁ := le4 r.length)
  unfold frecB
  rw [hn, hl, if_neg (by omega), if_neg (by omega), if_neg (by omega), hp, seal_opens]
  rfl
theorem read_cut (r rest : List UInt8) (h : r.length ≤ 4194304) (m : Nat) (hm : m < r.length + 8) : (frecB ((recB r ++ rest).take m)).2.2 = 101 := by
  have hl : ((recB r ++ rest).take m).length = m := by
    rw [List.length_take, List.length_append, recB_len]
    omega
  unfold frecB
  rw [hl]
  by_cases h4 : m < 4
  · rw [if_pos h4]
  · rw [if_neg h4]
    have hn : n4 ((recB r ++ rest).take m) = r.length := by
      have e : recB r ++ rest = le4 r.length ++ (sealB r ++ rest) := by simp [recB]
      have e2 : (recB r ++ rest).take m = le4 r.length ++ (sealB r ++ rest).take (m - 4) := by
        rw [e, List.take_append, List.take_of_length_le (by simp; omega)]
        simp
      rw [e2, n4_app _ (by omega)]
    rw [hn, if_neg (by omega), if_pos (by omega)]
theorem read_bad (r x rest : List UInt8) (h : r.length ≤ 4194304) (hx : x.length = r.length + 4) (ho : (openB x).2 = 102) : (frecB (le4 r.length ++ x ++ rest)).2.2 = 102 := by
  have hn : n4 (le4 r.length ++ x ++ rest) = r.length := by rw [List.append_assoc, n4_app _ (by omega)]
  have hl : (le4 r.length ++ x ++ rest).length = r.length + 8 + rest.length := by simp; omega
  have hp : ((le4 r.length ++ x ++ rest).take (r.length + 8)).drop 4 = x := by
    have : r.length + 8 = (le4 r.length ++ x).length := by simp; omega
    rw [this, List.take_left]
    exact List.drop_left (l₁ := le4 r.length)
  unfold frecB
  rw [hn, hl, if_neg (by omega), if_neg (by omega), if_neg (by omega), hp, if_neg (by omega)]
  exact ho

theorem recsB_app (a b : List (List UInt8)) : recsB (a ++ b) = recsB a ++ recsB b := by simp [recsB]
theorem recsB_cons (r : List UInt8) (ls : List (List UInt8)) : recsB (r :: ls) = recB r ++ recsB ls := by simp [recsB]
theorem drop_getD {α : Type} (l : List α) (k : Nat) (d : α) (h : k < l.length) : l.drop k = l.getD k d :: l.drop (k + 1) := by
  rw [List.drop_eq_getElem_cons h]
  simp [List.getD, h]
/-- Where the k-th record ends. -/
def endB (ls : List (List UInt8)) (k : Nat) : Nat := (recsB (ls.take k)).length
theorem endB_zero (ls : List (List UInt8)) : endB ls 0 = 0 := by simp [endB, recsB]
theorem endB_succ (ls : List (List UInt8)) (k : Nat) (h : k < ls.length) : endB ls (k + 1) = endB ls k + (ls.getD k []).length + 8 := by
  unfold endB
  rw [recsB_take ls k h, List.length_append, recB_len]
  omega
theorem endB_mono (ls : List (List UInt8)) {i k : Nat} (h : i ≤ k) : endB ls i ≤ endB ls k := by
  unfold endB
  have : ls.take i = (ls.take k).take i := by rw [List.take_take, Nat.min_eq_left h]
  rw [this]
  exact recsB_le _ _
theorem endB_all (ls : List (List UInt8)) : endB ls ls.length = (recsB ls).length := by rw [endB, List.take_length]
theorem recsB_split (ls : List (List UInt8)) (k : Nat) : recsB ls = recsB (ls.take k) ++ recsB (ls.drop k) := by
  rw [← recsB_app, List.take_append_drop]

/-- What All does at the end of the records: nothing is left, or Read tells. -/
def AllEnd (t : List UInt8) (code : Nat) : Prop := (t = [] ∧ code = 0) ∨ (t ≠ [] ∧ (frecB t).2.2 = code ∧ code ≠ 0)
/-- Cut at k, behind the w-th record. -/
theorem cut_end (ls : List (List UInt8)) (k w : Nat) (hls : ∀ r ∈ ls, r.length ≤ 4194304) (hk : k ≤ (recsB ls).length) (hw : w ≤ ls.length) (h1 : endB ls w ≤ k) (h2 : w < ls.length → k < endB ls (w + 1)) :
    ∃ t code, (recsB ls).take k = recsB (ls.take w) ++ t ∧ AllEnd t code ∧ (code = 0 ↔ endB ls w = k) ∧ (code = 0 ∨ code = 101) := by
  have hs := recsB_split ls w
  have e1 : (recsB ls).take k = recsB (ls.take w) ++ (recsB (ls.drop w)).take (k - endB ls w) := by
    rw [hs, List.take_append, List.take_of_length_le (by unfold endB at h1; exact h1)]
    rfl
  by_cases he : endB ls w = k
  · refine ⟨[], 0, ?_, .inl ⟨rfl, rfl⟩, by simp [he], .inl rfl⟩
    rw [e1, he]
    simp
  · have hwl : w < ls.length := by
      rcases Nat.lt_or_eq_of_le hw with h | h
      · exact h
      · subst h; rw [endB_all] at h1 he; omega
    have h3 := h2 hwl
    rw [endB_succ ls w hwl] at h3
    have hr : (ls.getD w []).length ≤ 4194304 := hls _ (by
      rw [List.getD_eq_getElem?_getD, List.getElem?_eq_getElem hwl]
      exact List.getElem_mem _)
    have e2 : recsB (ls.drop w) = recB (ls.getD w []) ++ recsB (ls.drop (w + 1)) := by rw [drop_getD ls w [] hwl, recsB_cons]
    refine ⟨_, 101, e1, .inr ⟨?_, ?_, by decide⟩, by simp [he], .inr rfl⟩
    · intro e
      have := congrArg List.length e
      rw [e2] at this
      simp [recB_len] at this
      omega
    · rw [e2]
      exact read_cut _ _ hr _ (by omega)
/-- One byte behind a length turned. -/
theorem turn_end (ls : List (List UInt8)) (i j : Nat) (b : UInt8) (hls : ∀ r ∈ ls, r.length ≤ 4194304) (hb : b ≠ 0) (hj : j < ls.length) (h1 : endB ls j + 4 ≤ i) (h2 : i < endB ls (j + 1)) :
    ∃ t, (recsB ls).set i ((recsB ls).getD i 0 ^^^ b) = recsB (ls.take j) ++ t ∧ AllEnd t 102 := by
  have hs := recsB_split ls j
  have e2 : recsB (ls.drop j) = recB (ls.getD j []) ++ recsB (ls.drop (j + 1)) := by rw [drop_getD ls j [] hj, recsB_cons]
  rw [endB_succ ls j hj] at h2
  have hr : (ls.getD j []).length ≤ 4194304 := hls _ (by
    rw [List.getD_eq_getElem?_getD, List.getElem?_eq_getElem hj]
    exact List.getElem_mem _)
  generalize ls.getD j [] = r at *
  generalize hrest : recsB (ls.drop (j + 1)) = rest at *
  have hE : (recsB (ls.take j)).length = endB ls j := rfl
  obtain ⟨q, rfl⟩ : ∃ q, i = endB ls j + (4 + q) := ⟨i - endB ls j - 4, by omega⟩
  have hq : q < (sealB r).length := by simp [sealB]; omega
  have hg : (recsB ls).getD (endB ls j + (4 + q)) 0 = (sealB r).getD q 0 := by
    rw [hs, e2]
    simp only [List.getD]
    rw [List.getElem?_append_right (by omega), hE, Nat.add_sub_cancel_left]
    unfold recB
    rw [List.append_assoc, List.getElem?_append_right (by simp), show 4 + q - (le4 r.length).length = q by simp, List.getElem?_append_left hq]
  have hset : (recsB ls).set (endB ls j + (4 + q)) ((recsB ls).getD (endB ls j + (4 + q)) 0 ^^^ b) = recsB (ls.take j) ++ (le4 r.length ++ (sealB r).set q ((sealB r).getD q 0 ^^^ b) ++ rest) := by
    rw [hg, hs, e2, List.set_append_right _ _ (by omega), hE, Nat.add_sub_cancel_left]
    unfold recB
    rw [List.append_assoc, List.set_append_right _ _ (by simp), show 4 + q - (le4 r.length).length = q by simp, List.set_append_left _ _ hq]
    simp
  refine ⟨_, hset, .inr ⟨by simp [le4], ?_, by decide⟩⟩
  have hxl : ((sealB r).set q ((sealB r).getD q 0 ^^^ b)).length = (sealB r).length := by simp
  refine read_bad r _ rest hr (by rw [hxl]; simp [sealB]) (open_not (by rw [hxl]; simp [sealB]) fun h0 => ?_)
  have hbits : ∀ m, bitAt ((sealB r).set q ((sealB r).getD q 0 ^^^ b)) m = (bitAt (sealB r) m ^^ (decide (m / 8 = q) && b.toNat.testBit (m % 8))) := by
    intro m
    unfold bitAt
    by_cases hm : m / 8 = q
    · subst hm
      simp [List.getD, hq, UInt8.toNat_xor, Nat.testBit_xor]
    · have : ((sealB r).set q ((sealB r).getD q 0 ^^^ b)).getD (m / 8) 0 = (sealB r).getD (m / 8) 0 := by
        simp only [List.getD]
        rw [List.getElem?_set_ne (by omega)]
      rw [this]
      simp [hm]
  rw [turned_iff r _ _ hxl (fun m _ => hbits m)] at h0
  have hz := S_burst (8 * q) _ (fun m hm => by simp [show ¬ m / 8 = q by omega]) (fun m hm => by
    rcases hm with hm | hm
    · simp [show ¬ m / 8 = q by omega]
    · rw [hxl] at hm
      simp [show ¬ m / 8 = q by omega]) h0
  apply hb
  apply UInt8.toNat.inj
  apply Nat.eq_of_testBit_eq
  intro m
  by_cases hm : m < 8
  · have := hz (8 * q + m)
    rw [show (8 * q + m) / 8 = q by omega, show (8 * q + m) % 8 = m by omega] at this
    simpa using this
  · have : b.toNat.testBit m = false := Nat.testBit_lt_two_pow (Nat.lt_of_lt_of_le b.toNat_lt (Nat.pow_le_pow_right (by decide) (by omega)))
    rw [this]
    simp
end
section
open Go.RowKit

/-- Value v owns a row of byte slices, each of its own. -/
def RecOwn (base : Nat) (w : World) (v : Value) (rs : List (List UInt8)) : Prop :=
  ∃ xs, w.ownsRow base 22 1 v rs.length xs ∧ ∀ i, i < rs.length → ∃ u, xs[i]? = some u ∧ OB base w u (rs.getD i [])
theorem RecOwn.frame {base : Nat} {w w' : World} {v : Value} {rs : List (List UInt8)} (h : RecOwn base w v rs) (hf : Fr (fun _ => False) w w') : RecOwn base w' v rs := by
  obtain ⟨xs, ho, hx⟩ := h
  exact ⟨xs, hf.own ho (fun _ _ => not_false), fun i hi => by obtain ⟨u, h1, h2⟩ := hx i hi; exact ⟨u, h1, hf.own h2 (fun _ _ => not_false)⟩⟩
theorem RecOwn.nil (base : Nat) (w : World) : RecOwn base w (.slice none 0 0) [] := ⟨[], World.ownsRow_nil _ _ _ _, fun i hi => by simp at hi⟩
theorem RecOwn.bss {base : Nat} {w : World} {v : Value} {rs : List (List UInt8)} (h : RecOwn base w v rs) : Bss (fun k => base ≤ k) w v rs := by
  obtain ⟨xs, ho, hx⟩ := h
  rcases ho.2 with ⟨rfl, h0⟩ | ⟨g, cap, cur, rfl, hb, hg, h1, h2, h3, ht⟩
  · exact ⟨none, 0, by rw [h0], by omega, by simp [maxLen], fun k hk => by omega⟩
  · refine ⟨some ⟨g, 0, none⟩, cap, rfl, h1, h2, fun k hk => ?_⟩
    obtain ⟨u, e, hu⟩ := hx k hk
    refine ⟨g, 0, u, rfl, hb, ?_, OB.bs hu⟩
    rw [Nat.zero_add, cell_of_row _ _ _ _ _ _ hg]
    have : (cur.toList.take (rs.length * 1))[k]? = xs[k]? := by rw [ht]
    rw [List.getElem?_take, if_pos (by omega)] at this
    simp only [Array.getElem?_toList] at this
    rw [this, e]
theorem Tryd.info_bytes : (Tryd.prog.info? 22).map (fun i => (i.zero, i.size, i.bytes)) = some (some (.slice none 0 0), 1, 24) := by kernel_rfl

set_option maxHeartbeats 1600000 in
theorem all_any (D : Nat → Prop) (pa : Nat → Addr) (v : Value) (l : List UInt8) (ls : List (List UInt8)) (t : List UInt8) (code : Nat) (w : World) (hB : Bs D w v l) (hl : l.length ≤ 1073741824) (hE : Sents w pa)
    (hls : ∀ r ∈ ls, r.length ≤ 4194304) (he : l = recsB ls ++ t) (ht : AllEnd t code) :
    Calls Tryd.prog 64 #[v] w fun e w' => ∃ v', e = .returned (.tuple #[v', .int .i64 (recsB ls).length, errV pa code]) ∧ RecOwn w.heap.size w' v' ls ∧ Fr (fun _ => False) w w' := by
  have hB0 := hB
  obtain ⟨a, c, rfl, hlc, hcm, hk⟩ := hB
  have hll : l.length = (recsB ls).length + t.length := by rw [he, List.length_append]
  have hcount : ls.length ≤ 1073741824 := by
    have : 8 * ls.length ≤ (recsB ls).length := by
      clear hk he hls hll
      induction ls with
      | nil => simp
      | cons r ls ih => rw [recsB_cons, List.length_append, recB_len, List.length_cons]; omega
    omega
  unfold maxLen at hcm
  have HB := hid hB0; have HE := hid hE; have HLS := hid hls; have HEQ := hid he; have HT := hid ht; have HK := hid hk; have HLL := hid hll; have HCM := hid hcm; have HCO := hid hcount; have HL := hid hl
  clear hB0 hE hls he ht hk hll hcm hcount hl
  go_enter Tryd.func64, Tryd.ntmps64
  go_wp2_with fail
  go_loopw [5, 6] (fun o p wr => ∃ k : Nat, k ≤ ls.length ∧ p = .int .i64 (endB ls k) ∧ RecOwn w.heap.size wr o (ls.take k) ∧ Fr (fun _ => False) w wr) (fun _ p _ => l.length - (intOf p).toNat)
  case atStart => exact ⟨0, by omega, by rw [endB_zero]; rfl, by rw [List.take_zero]; exact RecOwn.nil _ _, Fr.refl _ _⟩
  case round =>
    obtain ⟨k, hkl, rfl, hO, hf⟩ := hrel
    have HO := hid hO; have HF := hid hf
    clear hO hf
    have hend : endB ls k ≤ (recsB ls).length := by rw [← endB_all]; exact endB_mono ls hkl
    have hll := HLL.out
    by_cases hlt : endB ls k < l.length
    · have hlen0 : 0 < l.length := by omega
      obtain ⟨b, o, rfl, _, _⟩ := HK.out 0 hlen0
      have hp := Bs.from HB.out (endB ls k) hlt
      have hdr : l.drop (endB ls k) = recsB (ls.drop k) ++ t := by
        rw [HEQ.out, recsB_split ls k, List.append_assoc, endB, List.drop_left]
      have hcc : ¬ c = endB ls k := by omega
      have hpos : (endB ls k : Int) ≤ l.length := by omega
      have hlt' : (endB ls k : Int) < l.length := by omega
      have hpl : (l.drop (endB ls k)).length ≤ 1073741824 := by have := HL.out; simp; omega
      have hcm := HCM.out
      by_cases hks : k < ls.length
      · have hrd : frecB (l.drop (endB ls k)) = (ls.getD k [], (ls.getD k []).length + 8, 0) := by
          rw [hdr, drop_getD ls k [] hks, recsB_cons, List.append_assoc]
          refine read_rec _ _ (HLS.out _ ?_)
          rw [List.getD_eq_getElem?_getD, List.getElem?_eq_getElem hks]
          exact List.getElem_mem _
        have hes := endB_succ ls k hks
        have hes2 : endB ls (k + 1) ≤ (recsB ls).length := by rw [← endB_all]; exact endB_mono ls hks
        have htk := take_snoc ls k [] hks
        generalize hr : ls.getD k [] = r at *
        generalize l.drop (endB ls k) = q at *
        generalize endB ls k = p at *
        have hin : (p : Int) + (r.length + 8 : Nat) ≤ 1073741824 := by have := HL.out; omega
        have hcmI : (c : Int) ≤ 9223372036854775807 := by omega
        have HRD := hid hrd; have HP := hid hp; have HDR := hid hdr; have HES := hid hes; have HR := hid hr; have HTK := hid htk
        have HPL := hid hpl; have HE2 := hid hes2
        clear hrd hp hdr hes hr htk hll hpl hcm hes2
        go_wp2_with fail
        refine (fread_any D pa _ q wr (HP.out.frame HF.out (fun _ _ => not_false)) HPL.out (HE.out.frame HF.out)).mono ?_
        rintro e w2 ⟨v2, rfl, ho2, hf2⟩
        rw [show (frecB q).2.1 = r.length + 8 by rw [HRD.out], show (frecB q).2.2 = 0 by rw [HRD.out]]
        replace ho2 : OB wr.heap.size w2 v2 r := by rw [HRD.out] at ho2; exact ho2
        obtain ⟨a2, c2, rfl, -⟩ := own_len ho2
        obtain ⟨xs, hxo, hxs⟩ := HO.out.frame hf2
        have HO2 := hid (own_base ho2 HF.out.size); have HF2 := hid (HF.out.trans' hf2); have HXO := hid hxo; have HXS := hid hxs
        clear ho2 hf2 hxo hxs
        have htl : (ls.take k).length = k := by simp; omega
        have hn1 : (ls.take k).length + 1 ≤ 1099511627776 := by have := HCO.out; omega
        have hown := World.ownsRow.alloc HXO.out (.cells #[.slice a2 r.length c2] 22)
        have hc1 := cell_new1 w2 (.slice a2 r.length c2) 22 (0, 0)
        have hbs : w.heap.size ≤ (w2.alloc (.cells #[.slice a2 r.length c2] 22)).heap.size := by have := HF2.out.size; simp; omega
        have hv2 : (Value.slice a2 r.length c2).oneCell' = true := rfl
        have HOW := hid hown; have HC1 := hid hc1; have HBS := hid hbs; have HTL := hid htl; have HV2 := hid hv2; have HN1 := hid hn1
        clear hown hc1 hbs htl hv2 hn1
        unfold errV
        rw [if_pos rfl]
        go_wp2_with (at_builtin; go_must (refine wpList_append1 rfl (.tmp 27) (.tmp 29) 40 rfl 22 (.slice none 0 0) 24 Tryd.underlying40 Tryd.info_bytes rfl _ rfl w.heap.size (ls.take k).length xs HOW.out w2.heap.size 1 (.slice a2 r.length c2) rfl HC1.out HV2.out HN1.out (by decide) HBS.out ?_))
        intro g cap w3 ho3 hf3 _
        have hR3 : RecOwn w.heap.size w3 (.slice (some ⟨g, 0, none⟩) (k + 1) cap) (ls.take (k + 1)) := by
          refine ⟨xs ++ [.slice a2 r.length c2], ?_, ?_⟩
          · rw [HTK.out, List.length_append, HTL.out]
            exact ho3
          · have hdis : ∀ u q, OB w.heap.size w2 u q → OB w.heap.size w3 u q := fun u q hu =>
              hf3.own (World.ownsRow.alloc hu _) (fun k hk => own_ne (World.ownsRow.alloc hu _) HOW.out (by decide) k hk)
            intro i hi
            rw [HTK.out, List.length_append, HTL.out] at hi
            rw [HTK.out]
            have hxl : xs.length = (ls.take k).length := by have := HXO.out.1; omega
            by_cases hik : i < k
            · obtain ⟨u, e, hu⟩ := HXS.out i (by rw [HTL.out]; exact hik)
              refine ⟨u, by rw [List.getElem?_append_left (by rw [hxl, HTL.out]; exact hik)]; exact e, ?_⟩
              have : (ls.take k ++ [r]).getD i [] = (ls.take k).getD i [] := by
                simp only [List.getD]
                rw [List.getElem?_append_left (by rw [HTL.out]; exact hik)]
              rw [this]
              exact hdis _ _ hu
            · obtain rfl : i = k := by simp at hi; omega
              refine ⟨.slice a2 r.length c2, by rw [List.getElem?_append_right (by rw [hxl, HTL.out]; exact Nat.le_refl _), hxl, HTL.out]; simp, ?_⟩
              have : (ls.take i ++ [r]).getD i [] = r := by
                simp only [List.getD]
                rw [List.getElem?_append_right (by rw [HTL.out]; exact Nat.le_refl _), HTL.out]
                simp
              rw [this]
              exact hdis _ _ HO2.out
        have hF3 : Fr (fun _ => False) w w3 := (HF2.out.alloc (.cells #[.slice a2 r.length c2] 22)).trans hf3 (fun _ _ h => h) (fun x hx e => by
          have := HXO.out.lt x e.symm
          omega)
        have HR3 := hid hR3; have HF3 := hid hF3
        clear ho3 hf3 hR3 hF3
        go_wp2_with fail
        go_roundw
        case rel => exact ⟨k + 1, by omega, by rw [HES.out]; go_num, HR3.out, HF3.out⟩
        case measure => simp [intOf]; omega
      · obtain rfl : k = ls.length := by omega
        have hcode : (frecB (l.drop (endB ls ls.length))).2.2 = code ∧ code ≠ 0 := by
          rcases HT.out with ⟨h0, _⟩ | ⟨_, h1, h2⟩
          · rw [h0] at hll
            simp at hll
            rw [endB_all] at hlt
            omega
          · rw [hdr, List.drop_length]
            exact ⟨h1, h2⟩
        have hea := endB_all ls
        generalize l.drop (endB ls ls.length) = q at *
        generalize endB ls ls.length = p at *
        have HP := hid hp; have HPL := hid hpl; have HC := hid hcode; have HEA := hid hea
        have hcmI : (c : Int) ≤ 9223372036854775807 := by omega
        clear hp hpl hcode hdr hea hcm hll
        go_wp2_with fail
        refine (fread_any D pa _ q wr (HP.out.frame HF.out (fun _ _ => not_false)) HPL.out (HE.out.frame HF.out)).mono ?_
        rintro e w2 ⟨v2, rfl, -, hf2⟩
        rw [HC.out.1]
        have hO2 := HO.out.frame hf2
        rw [List.take_length] at hO2
        have HO2 := hid hO2; have HF2 := hid (HF.out.trans' hf2)
        clear hf2 hO2
        have hev : ∃ a, errV pa code = .iface 168 (.pointer (some a)) := ⟨_, by unfold errV; rw [if_neg HC.out.2]⟩
        obtain ⟨ea, hev⟩ := hev
        rw [hev]
        have HEV := hid hev
        clear hev
        go_wp2_with fail
        go_ret3
        exact ⟨_, by rw [HEV.out, ← HEA.out]; rfl, HO2.out, HF2.out⟩
    · obtain rfl : k = ls.length := by
        rcases Nat.lt_or_eq_of_le hkl with h | h
        · have := endB_succ ls k h
          have := endB_mono ls (show k + 1 ≤ ls.length from h)
          rw [endB_all] at this
          omega
        · exact h
      have hc0 : code = 0 := by
        rcases HT.out with ⟨_, h1⟩ | ⟨h1, _⟩
        · exact h1
        · exfalso
          apply h1
          rw [endB_all] at hlt
          exact List.eq_nil_of_length_eq_zero (by omega)
      have hea := endB_all ls
      subst hc0
      have hO2 := HO.out
      rw [List.take_length] at hO2
      generalize endB ls ls.length = p at *
      have hlt' : ¬ (p : Int) < l.length := by omega
      have HO2 := hid hO2; have HEA := hid hea
      clear hO2 hea hll hend
      go_wp2_with fail
      go_ret3
      exact ⟨_, by rw [← HEA.out]; rfl, HO2.out, HF.out⟩
end
end Go.Proofs.YtpceckmjoicdlaaDoor
