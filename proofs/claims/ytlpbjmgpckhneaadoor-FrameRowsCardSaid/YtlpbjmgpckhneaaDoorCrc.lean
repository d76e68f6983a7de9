/- The register of the sums, bit by bit: what a burst of 32 bits, and what three bits, do to it. Plain Lean, no program. -/
namespace Go.Proofs.YtlpbjmgpckhneaaDoor
/-- One step of the register. -/
def zs (c : BitVec 32) : BitVec 32 := if c.getLsbD 0 then (c >>> 1) ^^^ 0xedb88320#32 else c >>> 1
theorem zs_xor (a b : BitVec 32) : zs (a ^^^ b) = zs a ^^^ zs b := by
  unfold zs
  have e : (a ^^^ b) >>> 1 = (a >>> 1) ^^^ (b >>> 1) := by
    apply BitVec.eq_of_getLsbD_eq; intro i hi; simp
  rw [BitVec.getLsbD_xor, e]
  generalize a >>> 1 = x
  generalize b >>> 1 = y
  cases ha : a.getLsbD 0 <;> cases hb : b.getLsbD 0
  · rfl
  · show x ^^^ y ^^^ 0xedb88320#32 = x ^^^ (y ^^^ 0xedb88320#32)
    ac_rfl
  · show x ^^^ y ^^^ 0xedb88320#32 = x ^^^ 0xedb88320#32 ^^^ y
    ac_rfl
  · show x ^^^ y = x ^^^ 0xedb88320#32 ^^^ (y ^^^ 0xedb88320#32)
    rw [show x ^^^ 0xedb88320#32 ^^^ (y ^^^ 0xedb88320#32) = (x ^^^ y) ^^^ (0xedb88320#32 ^^^ 0xedb88320#32) by ac_rfl, BitVec.xor_self, BitVec.xor_zero]
theorem zs_inj {c : BitVec 32} (h : zs c = 0#32) : c = 0#32 := by
  unfold zs at h
  cases hc : c.getLsbD 0
  · rw [hc] at h
    apply BitVec.eq_of_getLsbD_eq
    intro i hi
    cases i with
    | zero => simpa using hc
    | succ i =>
      have := congrArg (fun x : BitVec 32 => x.getLsbD i) h
      simp [BitVec.getLsbD_ushiftRight] at this
      rw [Nat.add_comm] at this
      simpa using this
  · rw [hc, if_pos rfl] at h
    have := congrArg (fun x : BitVec 32 => x.getLsbD 31) h
    simp [BitVec.getLsbD_ushiftRight] at this
def it (f : BitVec 32 → BitVec 32) : Nat → BitVec 32 → BitVec 32
  | 0, c => c
  | n + 1, c => f (it f n c)
theorem it_xor (n : Nat) (a b : BitVec 32) : it zs n (a ^^^ b) = it zs n a ^^^ it zs n b := by
  induction n with
  | zero => rfl
  | succ n ih => simp only [it, ih, zs_xor]
theorem it_inj (n : Nat) {c : BitVec 32} (h : it zs n c = 0#32) : c = 0#32 := by
  induction n with
  | zero => exact h
  | succ n ih => exact ih (zs_inj h)
theorem it_add (m n : Nat) (c : BitVec 32) : it zs (m + n) c = it zs m (it zs n c) := by
  induction m with
  | zero => simp [it]
  | succ m ih => rw [Nat.add_right_comm]; simp only [it, ih]
theorem zs_zero : zs 0#32 = 0#32 := by decide
theorem it_zero (n : Nat) : it zs n 0#32 = 0#32 := by
  induction n with
  | zero => rfl
  | succ n ih => simp only [it, ih, zs_zero]
theorem xor_eq_zero {a b : BitVec 32} (h : a ^^^ b = 0#32) : a = b := by
  have : (a ^^^ b) ^^^ b = 0#32 ^^^ b := by rw [h]
  simpa [BitVec.xor_assoc] using this
theorem it_eq (n : Nat) {a b : BitVec 32} (h : it zs n a = it zs n b) : a = b := by
  apply xor_eq_zero
  apply it_inj n
  rw [it_xor, h, BitVec.xor_self]
/-- A bit's place in the register. -/
theorem it_one_shift : ∀ j, j < 32 → it zs j (1#32 <<< j) = 1#32 := by decide +kernel

/-! The register, bit by bit. -/
def b1 (b : Bool) : BitVec 32 := if b then 1#32 else 0#32
theorem b1_xor (a b : Bool) : b1 (a ^^ b) = b1 a ^^^ b1 b := by cases a <;> cases b <;> rfl
def S (c : BitVec 32) (e : Nat → Bool) : Nat → BitVec 32
  | 0 => c
  | m + 1 => zs (S c e m ^^^ b1 (e m))
theorem S_xor (c d : BitVec 32) (e f : Nat → Bool) (m : Nat) : S (c ^^^ d) (fun j => e j ^^ f j) m = S c e m ^^^ S d f m := by
  induction m with
  | zero => rfl
  | succ m ih =>
    simp only [S, ih, b1_xor, ← zs_xor]
    congr 1
    simp only [BitVec.xor_assoc]
    congr 1
    rw [← BitVec.xor_assoc, BitVec.xor_comm _ (b1 (e m)), BitVec.xor_assoc]
theorem S_congr {c : BitVec 32} {e f : Nat → Bool} {m : Nat} (h : ∀ j, j < m → e j = f j) : S c e m = S c f m := by
  induction m with
  | zero => rfl
  | succ m ih => simp only [S, ih (fun j hj => h j (by omega)), h m (by omega)]
theorem S_rest {c : BitVec 32} {e : Nat → Bool} {k : Nat} (h : ∀ j, k ≤ j → e j = false) (m : Nat) : S c e (k + m) = it zs m (S c e k) := by
  induction m with
  | zero => rfl
  | succ m ih => rw [← Nat.add_assoc]; simp [S, it, ih, h (k + m) (by omega), b1]
theorem S_zero {e : Nat → Bool} {k : Nat} (h : ∀ j, j < k → e j = false) : S 0#32 e k = 0#32 := by
  induction k with
  | zero => rfl
  | succ k ih => simp [S, ih (fun j hj => h j (by omega)), h k (by omega), b1, zs_zero]
theorem S_one (p m : Nat) (h : p < m) : S 0#32 (fun j => j == p) m = it zs (m - p) 1#32 := by
  obtain ⟨d, rfl⟩ : ∃ d, m = (p + 1) + d := ⟨m - (p + 1), by omega⟩
  rw [S_rest (fun j hj => by simp; omega)]
  have : S 0#32 (fun j => j == p) (p + 1) = it zs 1 1#32 := by
    simp only [S, it, beq_self_eq_true]
    rw [S_zero (fun j hj => by simp; omega)]
    rfl
  rw [this, ← it_add]
  congr 1; omega
/-- The first j bits, as a word. -/
def wd (e : Nat → Bool) : Nat → BitVec 32
  | 0 => 0#32
  | j + 1 => wd e j ^^^ (if e j then 1#32 <<< j else 0#32)
theorem S_word {e : Nat → Bool} (k : Nat) (h : ∀ j, j < k → e j = false) : ∀ j, j ≤ 32 → S 0#32 e (k + j) = it zs j (wd (fun i => e (k + i)) j)
  | 0, _ => S_zero h
  | j + 1, hj => by
    have h1 := S_word k h j (by omega)
    rw [← Nat.add_assoc]
    simp only [S, h1, wd, it_xor, it]
    congr 1
    have h2 := it_one_shift j (by omega)
    congr 1
    by_cases he : e (k + j) = true
    · rw [if_pos he, h2, he]; rfl
    · rw [if_neg he, it_zero, Bool.eq_false_iff.2 he]; rfl
theorem wd_bit (e : Nat → Bool) : ∀ j, j ≤ 32 → ∀ i, i < 32 → (wd e j).getLsbD i = (decide (i < j) && e i)
  | 0, _, i, _ => by simp [wd]
  | j + 1, hj, i, hi => by
    have h1 := wd_bit e j (by omega) i hi
    simp only [wd, BitVec.getLsbD_xor, h1]
    have h2 : (if e j then 1#32 <<< j else 0#32).getLsbD i = (decide (i = j) && e j) := by
      cases he : e j
      · simp
      · simp only [if_true, Bool.and_true]
        rw [BitVec.getLsbD_shiftLeft]
        by_cases hij : i = j
        · subst hij; simp [hi]
        · simp [hij, hi]; omega
    rw [h2]
    by_cases hij : i = j
    · subst hij; simp
    · rcases Nat.lt_or_gt_of_ne hij with h | h
      · simp [hij, h, show i < j + 1 by omega]
      · simp [hij, show ¬ i < j by omega, show ¬ i < j + 1 by omega]
/-- A burst of 32 bits is told. -/
theorem S_burst {e : Nat → Bool} (k n : Nat) (h1 : ∀ j, j < k → e j = false) (h2 : ∀ j, k + 32 ≤ j ∨ n ≤ j → e j = false) (h : S 0#32 e n = 0#32) : ∀ j, e j = false := by
  have hS : S 0#32 e (n + (k + 32)) = 0#32 := by
    rw [S_rest (fun j hj => h2 j (.inr hj)), h, it_zero]
  rw [show n + (k + 32) = (k + 32) + n by omega, S_rest (fun j hj => h2 j (.inl hj)), S_word k h1 32 (Nat.le_refl _)] at hS
  have hw := it_inj _ (it_inj _ hS)
  intro j
  by_cases hj : j < k
  · exact h1 j hj
  · by_cases hj2 : k + 32 ≤ j
    · exact h2 j (.inl hj2)
    · have := wd_bit (fun i => e (k + i)) 32 (Nat.le_refl _) (j - k) (by omega)
      rw [hw] at this
      simp only [BitVec.getLsbD_zero] at this
      rw [show k + (j - k) = j by omega] at this
      simpa [show j - k < 32 by omega] using this.symm

/-! Three bits: by running through the places. -/
def gN (x : Nat) : Nat := if x % 2 == 1 then (x / 2) ^^^ 0xedb88320 else x / 2
theorem gN_zs (c : BitVec 32) : (zs c).toNat = gN c.toNat := by
  unfold zs gN
  have : c.getLsbD 0 = (c.toNat % 2 == 1) := by simp [BitVec.getLsbD, Nat.testBit, Nat.one_and_eq_mod_two]
  rw [this]
  split
  · simp [BitVec.toNat_xor, BitVec.toNat_ushiftRight, Nat.shiftRight_eq_div_pow]
  · simp [BitVec.toNat_ushiftRight, Nat.shiftRight_eq_div_pow]
def its : Nat → Nat → List Nat
  | 0, _ => []
  | n + 1, x => (x / 2) :: its n (gN x)
def dst : Nat → List Nat → Bool
  | 0, l => match l with | [] => true | [_] => true | _ => false
  | k + 1, l => match l with | [] => true | [_] => true | _ => dst k (l.filter fun x => Nat.testBit x k) && dst k (l.filter fun x => !Nat.testBit x k)
theorem dst_spec : ∀ (k : Nat) (l : List Nat), dst k l = true → ∀ a, ¬ [a, a].Sublist l
  | 0, l, h, a, hs => by
    have := hs.length_le
    unfold dst at h
    split at h <;> simp_all
  | k + 1, l, h, a, hs => by
    have h2 := hs.length_le
    unfold dst at h
    split at h
    · simp at h2
    · simp at h2
    · rw [Bool.and_eq_true] at h
      cases hb : Nat.testBit a k
      · have := hs.filter (fun x => !Nat.testBit x k)
        simp [hb] at this
        exact dst_spec k _ h.2 a (by simpa using this)
      · have := hs.filter (fun x => Nat.testBit x k)
        simp [hb] at this
        exact dst_spec k _ h.1 a (by simpa using this)
theorem its_get : ∀ (n : Nat) (c : BitVec 32) (i : Nat), i < n → (its n c.toNat)[i]? = some ((it zs i c).toNat / 2)
  | 0, _, _, h => by omega
  | n + 1, c, 0, _ => rfl
  | n + 1, c, i + 1, h => by
    have h1 := its_get n (zs c) i (by omega)
    simp only [its, List.getElem?_cons_succ]
    rw [← gN_zs, h1, show it zs i (zs c) = it zs (i + 1) c from (it_add i 1 c).symm]
set_option maxRecDepth 100000 in
theorem dst_4032 : dst 31 (its 4032 1) = true := by decide +kernel
theorem pow_ne {i j : Nat} (hij : i < j) (hj : j < 4032) : (it zs i 1#32).toNat / 2 ≠ (it zs j 1#32).toNat / 2 := by
  have hi := its_get 4032 1#32 i (by omega)
  have hjj := its_get 4032 1#32 j hj
  rw [show (1#32).toNat = 1 by decide] at hi hjj
  have hp : (its 4032 1).Pairwise (· ≠ ·) := by
    rw [List.pairwise_iff_forall_sublist]
    intro a b hab e
    subst e
    exact dst_spec 31 _ dst_4032 a hab
  rw [List.pairwise_iff_getElem] at hp
  obtain ⟨li, ei⟩ := List.getElem?_eq_some_iff.1 hi
  obtain ⟨lj, ej⟩ := List.getElem?_eq_some_iff.1 hjj
  have := hp i j li lj hij
  rw [ei, ej] at this
  exact this
theorem pow_ne' {i j : Nat} (hij : i ≠ j) (hi : i < 4032) (hj : j < 4032) : (it zs i 1#32).toNat / 2 ≠ (it zs j 1#32).toNat / 2 := by
  rcases Nat.lt_or_gt_of_ne hij with h | h
  · exact pow_ne h hj
  · exact fun e => pow_ne h hi e.symm
/-- The least of three. -/
theorem three_least {a b c : Nat} (hca : c < a) (hcb : c < b) (hab : a ≠ b) (ha : a ≤ 4032) (hb : b ≤ 4032) (hc : 0 < c) : it zs a 1#32 ^^^ it zs b 1#32 ^^^ it zs c 1#32 ≠ 0#32 := by
  intro h
  obtain ⟨i, rfl⟩ : ∃ i, a = c + i := ⟨a - c, by omega⟩
  obtain ⟨j, rfl⟩ : ∃ j, b = c + j := ⟨b - c, by omega⟩
  rw [it_add, it_add, ← it_xor, ← it_xor] at h
  have h := xor_eq_zero (it_inj _ h)
  apply pow_ne' (i := i) (j := j) (by omega) (by omega) (by omega)
  have h2 : it zs i 1#32 = it zs j 1#32 ^^^ 1#32 := by
    generalize it zs i 1#32 = x at *
    generalize it zs j 1#32 = y at *
    rw [← h, show y ^^^ (x ^^^ y) = x ^^^ (y ^^^ y) by ac_rfl, BitVec.xor_self, BitVec.xor_zero]
  rw [h2, BitVec.toNat_xor]
  have := Nat.xor_div_two (a := (it zs j 1#32).toNat) (b := (1#32).toNat)
  rw [this]
  simp
theorem three_ne {a b c : Nat} (hab : a ≠ b) (hac : a ≠ c) (hbc : b ≠ c) (ha : 0 < a ∧ a ≤ 4032) (hb : 0 < b ∧ b ≤ 4032) (hc : 0 < c ∧ c ≤ 4032) : it zs a 1#32 ^^^ it zs b 1#32 ^^^ it zs c 1#32 ≠ 0#32 := by
  have comm : ∀ x y z : BitVec 32, x ^^^ y ^^^ z = x ^^^ z ^^^ y := fun x y z => by rw [BitVec.xor_assoc, BitVec.xor_comm y, ← BitVec.xor_assoc]
  by_cases h1 : c < a ∧ c < b
  · exact three_least h1.1 h1.2 hab ha.2 hb.2 hc.1
  · by_cases h2 : b < a ∧ b < c
    · rw [comm]; exact three_least h2.1 h2.2 hac ha.2 hc.2 hb.1
    · rw [BitVec.xor_comm (it zs a 1#32), comm, ]
      exact three_least (by omega) (by omega) hbc hb.2 hc.2 ha.1
theorem one_ne (a : Nat) : it zs a 1#32 ≠ 0#32 := fun h => by have := it_inj a h; revert this; decide
/-- Three bits turned, any of them twice or thrice: told. -/
theorem S_three (p q r n : Nat) (hp : p < n) (hq : q < n) (hr : r < n) (hn : n ≤ 4032) : S 0#32 (fun j => ((j == p) ^^ (j == q)) ^^ (j == r)) n ≠ 0#32 := by
  have e : S 0#32 (fun j => ((j == p) ^^ (j == q)) ^^ (j == r)) n = it zs (n - p) 1#32 ^^^ it zs (n - q) 1#32 ^^^ it zs (n - r) 1#32 := by
    rw [← S_one p n hp, ← S_one q n hq, ← S_one r n hr, ← S_xor, ← S_xor]
    rfl
  rw [e]
  by_cases hpq : p = q
  · subst hpq; rw [BitVec.xor_self, BitVec.zero_xor]; exact one_ne _
  · by_cases hpr : p = r
    · subst hpr; rw [BitVec.xor_comm (it zs (n - p) 1#32), BitVec.xor_assoc, BitVec.xor_self, BitVec.xor_zero]; exact one_ne _
    · by_cases hqr : q = r
      · subst hqr; rw [BitVec.xor_assoc, BitVec.xor_self, BitVec.xor_zero]; exact one_ne _
      · exact three_ne (by omega) (by omega) (by omega) (by omega) (by omega) (by omega)
end Go.Proofs.YtlpbjmgpckhneaaDoor
