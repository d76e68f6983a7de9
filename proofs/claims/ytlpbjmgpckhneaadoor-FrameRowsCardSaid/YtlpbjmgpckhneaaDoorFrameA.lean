/- Package frame: the table, the sum. -/
import Derived.Test.YtlpbjmgpckhneaaDoorLib
import Derived.Test.YtlpbjmgpckhneaaDoorCrc
import Derived.Laws.BitsAll
import Derived.Laws.Tables
namespace Go.Proofs.YtlpbjmgpckhneaaDoor
open Go.RowKit

/-- The sums of four bits. -/
def tabN (k : Nat) : Int := (it zs 4 (BitVec.ofNat 32 k)).toNat
def tabA (n : Nat) : Array Value := ((List.range 16).map fun j => if j < n then Value.int .u32 (tabN j) else .int .u32 0).toArray
theorem tabA_zero : #[.int .u32 0, .int .u32 0, .int .u32 0, .int .u32 0, .int .u32 0, .int .u32 0, .int .u32 0, .int .u32 0, .int .u32 0, .int .u32 0, .int .u32 0, .int .u32 0, .int .u32 0, .int .u32 0, .int .u32 0, .int .u32 0] = tabA 0 := by rfl
@[simp] theorem tabA_size (n : Nat) : (tabA n).size = 16 := by simp [tabA]
theorem tabA_get (n j : Nat) (h : j < 16) : (tabA n)[j]? = some (if j < n then Value.int .u32 (tabN j) else .int .u32 0) := by
  simp [tabA, h]
theorem tabA_set (k : Nat) (h : k < 16) : (tabA k).setIfInBounds k (.int .u32 (tabN k)) = tabA (k + 1) := by
  apply Array.ext_getElem?
  intro i
  by_cases hi : i < 16
  · rw [Array.getElem?_setIfInBounds, tabA_get _ i hi, tabA_get _ i hi]
    by_cases hk : k = i
    · subst hk; simp [h]
    · rw [if_neg hk]
      congr 1
      by_cases h1 : i < k
      · rw [if_pos h1, if_pos (by omega)]
      · rw [if_neg h1, if_neg (by omega)]
  · rw [Array.getElem?_eq_none (by simp; omega), Array.getElem?_eq_none (by simp; omega)]
theorem tabA_one (n : Nat) : (tabA n).all (·.oneCell') = true := by
  rw [Array.all_eq_true]
  intro i hi
  have hi' : i < 16 := by simpa using hi
  have := tabA_get n i hi'
  rw [Array.getElem?_eq_getElem hi] at this
  simp only [Option.some.injEq] at this
  rw [this]
  split <;> rfl

/-! The register's numbers as the walk spells them. -/
theorem u_xor (a b : BitVec 32) : Go.bits .xor .u32 (a.toNat : Int) (b.toNat : Int) = ((a ^^^ b).toNat : Int) := by
  rw [u32_xor_nat _ _ a.isLt b.isLt, BitVec.toNat_xor]
theorem u_and (a b : BitVec 32) : Go.bits .and .u32 (a.toNat : Int) (b.toNat : Int) = ((a &&& b).toNat : Int) := by
  rw [u32_and_nat _ _ a.isLt b.isLt, BitVec.toNat_and]
theorem u_or (a b : BitVec 32) : Go.bits .or .u32 (a.toNat : Int) (b.toNat : Int) = ((a ||| b).toNat : Int) := by
  rw [u32_or_nat _ _ a.isLt b.isLt, BitVec.toNat_or]

theorem u_shr (x : BitVec 32) (k : Nat) : (x.toNat : Int) / (2 ^ k : Nat) = ((x >>> k).toNat : Int) := by
  rw [BitVec.toNat_ushiftRight, Nat.shiftRight_eq_div_pow]
  simp
theorem half_step (x : BitVec 32) : bits BinOp.xor IntKind.u32 ((x.toNat : Int) / 2) (bits BinOp.and IntKind.u32 (-bits BinOp.and IntKind.u32 (x.toNat : Int) 1 % 4294967296) 3988292384) = ((zs x).toNat : Int) := by
  have e1 := u_and x 1#32
  have e2 := u_shr x 1
  rw [show ((1#32).toNat : Int) = 1 by decide] at e1
  rw [show ((2 ^ 1 : Nat) : Int) = 2 by decide] at e2
  rw [e1, e2]
  unfold zs
  by_cases hb : x.getLsbD 0 = true
  · have h1 : x &&& 1#32 = 1#32 := by
      apply BitVec.eq_of_getLsbD_eq
      intro i hi
      cases i with
      | zero => simp only [BitVec.getLsbD_and, hb]; rfl
      | succ i => simp
    rw [h1, if_pos hb]
    have e3 := u_and (4294967295#32) (0xedb88320#32)
    have e4 := u_xor (x >>> 1) (0xedb88320#32)
    rw [← e4]
    congr 1
  · have h1 : x &&& 1#32 = 0#32 := by
      apply BitVec.eq_of_getLsbD_eq
      intro i hi
      cases i with
      | zero => simp only [BitVec.getLsbD_and, Bool.eq_false_iff.2 hb]; rfl
      | succ i => simp
    rw [h1, if_neg hb]
    have e4 := u_xor (x >>> 1) (0#32)
    rw [BitVec.xor_zero] at e4
    rw [← e4]
    congr 1
theorem shl_step (y : BitVec 32) (j : Nat) (hy : ∀ i, 31 - j ≤ i → y.getLsbD i = false) : zs (y <<< (j + 1)) = y <<< j := by
  have h0 : (y <<< (j + 1)).getLsbD 0 = false := by rw [BitVec.getLsbD_shiftLeft]; simp
  unfold zs
  rw [h0]
  apply BitVec.eq_of_getLsbD_eq
  intro i hi
  simp only [Bool.false_eq_true, if_false, BitVec.getLsbD_ushiftRight, BitVec.getLsbD_shiftLeft]
  by_cases hij : i < j
  · simp [hij, show 1 + i < j + 1 by omega]
  · by_cases h31 : i = 31
    · subst h31
      rw [hy (31 - j) (by omega)]
      simp
    · simp [hij, show ¬ (1 + i < j + 1) by omega, hi, show 1 + i < 32 by omega, show 1 + i - (j + 1) = i - j by omega]
/-- Four bits at once. -/
theorem tab_step (x : BitVec 32) : bits BinOp.xor IntKind.u32 ((x.toNat : Int) / 16) (tabN (x.toNat % 16)) = ((it zs 4 x).toNat : Int) := by
  have e2 := u_shr x 4
  rw [show ((2 ^ 4 : Nat) : Int) = 16 by decide] at e2
  rw [e2]
  unfold tabN
  rw [u_xor]
  have hx : x = (x >>> 4) <<< 4 ^^^ BitVec.ofNat 32 (x.toNat % 16) := by
    apply BitVec.eq_of_getLsbD_eq
    intro i hi
    rw [BitVec.getLsbD_xor, BitVec.getLsbD_shiftLeft, BitVec.getLsbD_ushiftRight]
    have h16 : (BitVec.ofNat 32 (x.toNat % 16)).getLsbD i = (decide (i < 4) && x.getLsbD i) := by
      rw [BitVec.getLsbD_ofNat, show 16 = 2 ^ 4 from rfl, Nat.testBit_mod_two_pow]
      simp [hi]
      rfl
    rw [h16]
    by_cases h4 : i < 4
    · simp [h4]
    · simp [h4, hi]
      rw [show 4 + (i - 4) = i by omega]
      exact (BitVec.getLsbD_eq_getElem hi).symm
  have hs : it zs 4 ((x >>> 4) <<< 4) = x >>> 4 := by
    have hy : ∀ i, 28 ≤ i → (x >>> 4).getLsbD i = false := fun i hi => by rw [BitVec.getLsbD_ushiftRight]; exact BitVec.getLsbD_of_ge _ _ (by omega)
    generalize x >>> 4 = y at hy
    show zs (zs (zs (zs (y <<< 4)))) = y
    rw [shl_step y 3 (fun i hi => hy i (by omega)), shl_step y 2 (fun i hi => hy i (by omega)), shl_step y 1 (fun i hi => hy i (by omega)), shl_step y 0 (fun i hi => hy i (by omega))]
    simp
  conv => rhs; rw [hx, it_xor, hs]

theorem halves_any (w : World) : Calls Tryd.prog 29 #[] w fun e w' => e = .returned (.agg (tabA 16)) ∧ Fr (fun _ => False) w w' := by
  go_enter Tryd.func29, Tryd.ntmps29
  go_wp2_with fail
  rw [tabA_zero]
  have b0 := ((Fr.refl (fun _ => False) (w.alloc (.cells (tabA 0) 59))).alloc (.cells (tabA 0) 59)).heap (heap_alloc_new w (.cells (tabA 0) 59)) not_false
  have b1 := heap_alloc2_new w (.cells (tabA 0) 59) (.cells (tabA 0) 59)
  have bf := ((Fr.refl (fun _ => False) w).alloc (.cells (tabA 0) 59)).alloc (.cells (tabA 0) 59)
  generalize (w.alloc (.cells (tabA 0) 59)).alloc (.cells (tabA 0) 59) = W at *
  have H0 := hid b0; have H1 := hid b1; have HF := hid bf
  clear b0 b1 bf
  go_loopw [4] (fun i wr => ∃ k : Nat, k ≤ 16 ∧ i = .int .i64 k ∧ Hid (wr.heap[w.heap.size]? = some (.cells (tabA 0) 59 (0, 0))) ∧ Hid (wr.heap[w.heap.size + 1]? = some (.cells (tabA k) 59 (0, 0))) ∧ Fr (fun _ => False) w wr) (fun i _ => 16 - (intOf i).toNat)
  case atStart => exact ⟨0, by omega, rfl, H0, H1, HF.out⟩
  case round =>
    clear H0 H1 HF
    obtain ⟨k, hk, rfl, h0, h1, hf⟩ := hrel
    by_cases hlt : k < 16
    · have HF := hid hf
      clear hf
      go_wp2_with fail
      go_loop [3, 9] (fun x i => ∃ j : Nat, j ≤ 4 ∧ i = .int .i64 j ∧ x = .int .u32 ((it zs j (BitVec.ofNat 32 k)).toNat : Nat)) (fun x i => 4 - (intOf i).toNat)
      case atStart => exact ⟨0, by omega, rfl, by simp [it]; omega⟩
      case round =>
        obtain ⟨j, hj, rfl, rfl⟩ := hrel
        by_cases hlt2 : j < 4
        · have hj1 : it zs (j + 1) (BitVec.ofNat 32 k) = zs (it zs j (BitVec.ofNat 32 k)) := rfl
          generalize it zs j (BitVec.ofNat 32 k) = x at *
          have HJ := hid hj1
          clear hj1
          go_wp2_with fail
          go_round
          case rel =>
            refine ⟨j + 1, by omega, by go_num, ?_⟩
            rw [HJ.out, half_step]
          case measure => simp [intOf]; omega
        · obtain rfl : j = 4 := by omega
          have hc : wr.cell? ⟨w.heap.size + 1, k, none⟩ = some (.int .u32 0) := by rw [cell_of_row _ _ _ _ _ _ h1.out, tabA_get _ _ hlt, if_neg (by omega)]
          have hz : wr.frozen? ⟨w.heap.size + 1, k, none⟩ = false := frozen_of_row _ _ _ _ _ h1.out
          go_wp2_with fail
          go_roundw
          case rel => exact ⟨k + 1, by omega, by go_num, hid ((heap_setCell_other _ _ _ _ (by simp)).trans h0.out), hid (by
            have := setCell_row k (.int .u32 (tabN k)) h1.out
            rw [tabA_set k hlt] at this
            exact this), HF.out.setCell (.inr (by simp)) _⟩
          case measure => simp [intOf]; omega
    · obtain rfl : k = 16 := by omega
      have hlt' : decide ((16:Int) < 16) = false := by decide
      go_wp2_with (first | (refine wpList_load_row rfl 59 (.tmp 1) rfl (w.heap.size + 1) rfl 59 (tabA 16) (0, 0) _ h1.out Tryd.underlying59 rfl (by rw [tabA_size]; kernel_rfl) ?_) | (refine wpList_store_row rfl 59 (.tmp 0) (.tmp 23) rfl w.heap.size (tabA 16) rfl rfl 59 (tabA 0) h0.out (by rw [tabA_size]; kernel_rfl) (by simp) (tabA_one _) ?_))
      refine bodyPost_ret (results_cell_row rfl _ _ w.heap.size _ _ _ _ rfl (setRow_block h0.out) Tryd.underlying59 rfl (by rw [tabA_size]; kernel_rfl)) rfl ?_
      exact ⟨rfl, hf.setRow (.inr (Nat.le_refl _)) _⟩

/-! ### The sum -/
def crcB (c : BitVec 32) (b : UInt8) : BitVec 32 := it zs 8 (c ^^^ BitVec.ofNat 32 b.toNat)
def crc (c : BitVec 32) (l : List UInt8) : BitVec 32 := l.foldl crcB c
def sumB (l : List UInt8) : BitVec 32 := ~~~ (crc 4294967295#32 l)
theorem crc_take (c : BitVec 32) (l : List UInt8) (k : Nat) (h : k < l.length) : crc c (l.take (k + 1)) = crcB (crc c (l.take k)) (l.getD k 0) := by
  rw [take_snoc l k 0 h]
  simp only [crc, List.foldl_append, List.foldl_cons, List.foldl_nil]
theorem u_byte (b : UInt8) : ((b.toNat : Nat) : Int) = ((BitVec.ofNat 32 b.toNat).toNat : Int) := by
  have := b.toNat_lt
  rw [BitVec.toNat_ofNat, Nat.mod_eq_of_lt (by omega)]
theorem u_lt (x : BitVec 32) : (x.toNat : Int) < 4294967296 := by
  have := x.isLt
  omega

theorem u_and15 (y : BitVec 32) : bits BinOp.and IntKind.u32 (y.toNat : Int) 15 = ((y.toNat % 16 : Nat) : Int) := by
  have h := u_and y 15#32
  rw [show ((15#32).toNat : Int) = 15 by decide] at h
  rw [h, BitVec.toNat_and]
  congr 1
  rw [show (15#32).toNat = 2 ^ 4 - 1 by decide, Nat.and_two_pow_sub_one_eq_mod]
theorem u_not (x : BitVec 32) : bits BinOp.xor IntKind.u32 IntKind.u32.max (x.toNat : Int) = ((~~~x).toNat : Int) := by
  have h := u_xor (BitVec.allOnes 32) x
  rw [BitVec.allOnes_xor] at h
  exact h
theorem crc_two (x : BitVec 32) (b : UInt8) : crcB x b = it zs 4 (it zs 4 (x ^^^ BitVec.ofNat 32 b.toNat)) := by
  unfold crcB
  rw [← it_add]
theorem tab_cell {W : World} {g t : Nat} {fz : Nat × Nat} (h : W.heap[g]? = some (.cells (tabA 16) t fz)) (y : BitVec 32) : W.cell? ⟨g, y.toNat % 16, none⟩ = some (.int .u32 (tabN (y.toNat % 16))) := by
  rw [cell_of_row _ _ _ _ _ _ h, tabA_get _ _ (by omega), if_pos (by omega)]

theorem sum_any (D : Nat → Prop) (v : Value) (l : List UInt8) (w : World) (hB : Bs D w v l) :
    Calls Tryd.prog 17 #[v] w fun e w' => e = .returned (.int .u32 ((sumB l).toNat : Nat)) ∧ Fr (fun _ => False) w w' := by
  obtain ⟨a, c, rfl, hlc, hcm, hk⟩ := hB
  have hm' : l.length ≤ 9223372036854775807 := Nat.le_trans hlc hcm
  have HK := hid hk
  clear hk
  go_enter Tryd.func17, Tryd.ntmps17
  go_wp2_with fail
  refine (halves_any _).mono ?_
  rintro e w1 ⟨rfl, hf1⟩
  have hr := heap_alloc_new w1 (.cells (tabA 0) 59)
  have hW := (hf1.alloc (.cells (tabA 0) 59)).setRow (.inr (show w.heap.size ≤ w1.heap.size from hf1.size)) (tabA 16)
  have hrow := setRow_block (cs := tabA 16) hr
  have HR := hid hr; have HW := hid hW; have HRow := hid hrow
  clear hf1 hr hW hrow
  rw [← tabA_zero] at HR HW HRow
  go_wp2_with (refine wpList_store_row rfl 59 (.tmp 3) (.tmp 7) rfl w1.heap.size (tabA 16) rfl rfl 59 _ HR.out (by rw [tabA_size]; kernel_rfl) (by simp) (tabA_one _) ?_)
  generalize (w1.alloc (.cells _ 59)).setRow w1.heap.size (tabA 16) = W at *
  clear HR
  generalize w1.heap.size = g at *
  go_loop [4, 10] (fun x i => ∃ k : Nat, k ≤ l.length ∧ i = .int .i64 k ∧ x = .int .u32 ((crc 4294967295#32 (l.take k)).toNat : Nat)) (fun _ i => l.length - (intOf i).toNat)
  case atStart => exact ⟨0, by omega, rfl, rfl⟩
  case round =>
    obtain ⟨k, hkl, rfl, rfl⟩ := hrel
    by_cases hlt : k < l.length
    · have hst := crc_take 4294967295#32 l k hlt
      obtain ⟨b, o, rfl, hDb, hcw⟩ := HK.out k hlt
      have hcr := HW.out.cell hcw not_false
      have hby := u_byte (l.getD k 0)
      have hb1 := (l.getD k 0).toNat_lt
      generalize l.getD k 0 = ch at *
      generalize crc 4294967295#32 (l.take k) = x at *
      have e0 : bits BinOp.xor IntKind.u32 (x.toNat : Int) (ch.toNat : Int) = ((x ^^^ BitVec.ofNat 32 ch.toNat).toNat : Int) := by rw [hby, u_xor]
      clear hby hcw
      have HS := hid hst
      clear hst
      generalize hy : x ^^^ BitVec.ofNat 32 ch.toNat = y at *
      have HY := hid hy
      clear hy
      have a1 := u_and15 y
      have l1 := tab_cell HRow.out y
      have t1 := tab_step y
      have hz : it zs 4 y = it zs 4 y := rfl
      generalize hz : it zs 4 y = z at t1
      have HZ := hid hz
      clear hz
      have m1 : y.toNat % 16 < 16 := Nat.mod_lt _ (by decide)
      have m2 : z.toNat % 16 < 16 := Nat.mod_lt _ (by decide)
      have a2 := u_and15 z
      have l2 := tab_cell HRow.out z
      have t2 := tab_step z
      generalize y.toNat % 16 = q1 at *
      generalize z.toNat % 16 = q2 at *
      go_wp2_with fail
      go_round
      case rel =>
        refine ⟨k + 1, by omega, by go_num, ?_⟩
        rw [HS.out, crc_two, HY.out, HZ.out]
      case measure => simp [intOf]; omega
    · obtain rfl : k = l.length := by omega
      rw [List.take_length]
      have hs : bits BinOp.xor IntKind.u32 IntKind.u32.max ((crc 4294967295#32 l).toNat : Int) = ((sumB l).toNat : Int) := u_not _
      have hsg : IntKind.u32.signed = false := rfl
      generalize crc 4294967295#32 l = x at *
      generalize hy : sumB l = y at hs
      have HY := hid hy
      clear hy
      go_wp2_with fail
      go_ret
      exact ⟨ret_int (by rw [HY.out]), HW.out⟩
end Go.Proofs.YtlpbjmgpckhneaaDoor
