/- The statement FrameFinds, walked. -/
import Derived.Test.YtlpbjmgpckhneaaDoorFrameParts
import Derived.Test.YtlpbjmgpckhneaaDoorFrameBits
import Derived.IntWalk
namespace Go.Proofs.YtlpbjmgpckhneaaDoor
open Go.RowKit

theorem OB.set {base : Nat} {w : World} {g cap : Nat} {l : List UInt8} (h : OB base w (.slice (some ⟨g, 0, none⟩) l.length cap) l) (i : Nat) (hi : i < l.length) (x : UInt8) :
    OB base (w.setCell ⟨g, i, none⟩ (.int .u8 x.toNat)) (.slice (some ⟨g, 0, none⟩) l.length cap) (l.set i x) := by
  rcases h.2 with ⟨h1, _⟩ | ⟨g', cap', cur, e, hb, hg, h1, h2, h3, ht⟩
  · simp at h1
  · simp only [Value.slice.injEq, Option.some.injEq, Addr.mk.injEq] at e
    obtain ⟨⟨rfl, _, _⟩, _, rfl⟩ := e
    refine ⟨by simp, .inr ⟨g, cap, cur.setIfInBounds i (.int .u8 x.toNat), by simp, hb, setCell_row i _ hg, by simpa using h1, h2, by simpa using h3, ?_⟩⟩
    simp only [List.length_set, Nat.mul_one] at ht ⊢
    rw [Array.toList_setIfInBounds, List.take_set, ht]
    simp [bV, List.map_set]
theorem OB.cell {base : Nat} {w : World} {g cap n : Nat} {l : List UInt8} (h : OB base w (.slice (some ⟨g, 0, none⟩) n cap) l) (i : Nat) (hi : i < l.length) : w.cell? ⟨g, i, none⟩ = some (.int .u8 (l.getD i 0).toNat) ∧ w.frozen? ⟨g, i, none⟩ = false := by
  rcases h.2 with ⟨h1, _⟩ | ⟨g', cap', cur, e, hb, hg, h1, h2, h3, ht⟩
  · simp at h1
  · simp only [Value.slice.injEq, Option.some.injEq, Addr.mk.injEq] at e
    obtain ⟨⟨rfl, _, _⟩, _, rfl⟩ := e
    refine ⟨?_, frozen_of_row _ _ _ _ _ hg⟩
    rw [cell_of_row _ _ _ _ _ _ hg]
    have : (cur.toList.take (l.length * 1))[i]? = (bV l)[i]? := by rw [ht]
    rw [List.getElem?_take, if_pos (by omega)] at this
    simp only [Array.getElem?_toList] at this
    rw [this]
    simp [bV, List.getD, hi]
/-- Not empty: it lies in a block. -/
theorem OB.addr {base : Nat} {w : World} {v : Value} {l : List UInt8} (h : OB base w v l) (hl : 0 < l.length) : ∃ g cap, v = .slice (some ⟨g, 0, none⟩) l.length cap ∧ base ≤ g ∧ g < w.heap.size := by
  rcases own_heap h with ⟨_, h0, _⟩ | ⟨g, cap, e, hb, hg, _⟩
  · omega
  · exact ⟨g, cap, e, hb, hg⟩

theorem bit_and (b i : Nat) (hb : b < 4294967296) : Go.bits BinOp.and IntKind.u32 ((b : Int) / 2 ^ i) 1 = if b.testBit i = true then 1 else 0 := by
  have h1 : ((b : Int) / 2 ^ i) = ((b / 2 ^ i : Nat) : Int) := by simp
  rw [h1]
  have h2 := u32_and_nat (b / 2 ^ i) 1 (Nat.lt_of_le_of_lt (Nat.div_le_self _ _) hb) (by decide)
  rw [show ((1 : Nat) : Int) = 1 by rfl] at h2
  rw [h2, Nat.and_one_is_mod, Nat.testBit_eq_decide_div_mod_eq]
  by_cases h : b / 2 ^ i % 2 = 1
  · simp [h]
  · simp [h]
    omega
/-- The bits of a burst, cut at n. -/
def burst (k n bt i : Nat) (j : Nat) : Bool := decide (k ≤ j) && decide (j < k + i) && decide (j < n) && bt.testBit (j - k)

theorem num_nat (p : Int) (n : Nat) (hn : 0 < n) : ∃ P : Nat, p % (n : Int) = P ∧ P < n := by
  have g1 := Int.emod_nonneg p (show (n : Int) ≠ 0 by omega)
  have g2 := Int.emod_lt_of_pos p (show 0 < (n : Int) by omega)
  exact ⟨(p % (n : Int)).toNat, by omega, by omega⟩
/-- The first of three bits. -/
def three (P Q R : Nat) : Nat → Nat → Bool
  | 0, _ => false
  | 1, j => false ^^ (j == P)
  | 2, j => false ^^ (j == P) ^^ (j == Q)
  | _, j => false ^^ (j == P) ^^ (j == Q) ^^ (j == R)
theorem three_zero (P Q R j : Nat) : three P Q R 0 j = false := rfl
theorem shl_u8 (m : Nat) : IntKind.u8.wrap (2 ^ min (IntKind.u64.wrap ((m : Int).tmod 8)).toNat 8) = 2 ^ (m % 8) % 256 := by
  have h1 : (m : Int).tmod 8 = ((m % 8 : Nat) : Int) := by
    rw [Int.tmod_eq_emod_of_nonneg (by omega)]
    omega
  have h2 : m % 8 < 8 := Nat.mod_lt _ (by decide)
  rw [h1, IntKind.wrap_u64, IntKind.wrap_u8', show ((m % 8 : Nat) : Int) % 18446744073709551616 = ((m % 8 : Nat) : Int) by omega, Int.toNat_natCast, Nat.min_eq_left (by omega)]
theorem burst_zero (k n bt j : Nat) : burst k n bt 0 j = false := by
  unfold burst
  by_cases h : k ≤ j
  · simp [show ¬ j < k by omega]
  · simp [h]
theorem burst_ne (k n bt i j : Nat) (h : j ≠ k + i) : burst k n bt (i + 1) j = burst k n bt i j := by
  unfold burst
  have : decide (j < k + (i + 1)) = decide (j < k + i) := by
    rw [decide_eq_decide]
    omega
  rw [this]
theorem burst_on (k n bt i j : Nat) (hn : k + i < n) (hb : bt.testBit i = true) : burst k n bt (i + 1) j = (burst k n bt i j ^^ (j == k + i)) := by
  by_cases h : j = k + i
  · subst h
    unfold burst
    simp [hn, hb]
  · have e : (j == k + i) = false := by rw [beq_eq_false_iff_ne]; exact h
    rw [burst_ne _ _ _ _ _ h, e, Bool.xor_false]
theorem burst_off (k n bt i j : Nat) (hb : bt.testBit i = false) : burst k n bt (i + 1) j = burst k n bt i j := by
  by_cases h : j = k + i
  · subst h
    unfold burst
    simp [hb]
  · exact burst_ne _ _ _ _ _ h
theorem xor_u8 (x : UInt8) (e : Nat) (he : e < 8) : Go.bits BinOp.xor IntKind.u8 (x.toNat : Int) (2 ^ e % 256) = ((x ^^^ UInt8.ofNat (2 ^ e)).toNat : Int) := by
  have h2 : (2 : Nat) ^ e < 256 := Nat.pow_lt_pow_right (by decide) he
  have h1 : ((2 : Int) ^ e % 256) = ((2 ^ e : Nat) : Int) := by
    have : ((2 : Int) ^ e) = ((2 ^ e : Nat) : Int) := by simp
    rw [this]
    clear this
    generalize 2 ^ e = y at h2
    omega
  rw [h1, u8_xor_nat _ _ x.toNat_lt h2, UInt8.toNat_xor]
  congr 2
  rw [UInt8.toNat_ofNat']
  exact (Nat.mod_eq_of_lt h2).symm
theorem OB.flip {base : Nat} {w : World} {g cap n : Nat} {l : List UInt8} (h : OB base w (.slice (some ⟨g, 0, none⟩) n cap) l) (hn : l.length = n) (p : Nat) (hp : p < 8 * n) :
    OB base (w.setCell ⟨g, p / 8, none⟩ (.int .u8 (l.getD (p / 8) 0 ^^^ UInt8.ofNat (2 ^ (p % 8))).toNat)) (.slice (some ⟨g, 0, none⟩) n cap) (flip l p) := by
  subst hn
  exact OB.set h (p / 8) (by omega) _

set_option maxRecDepth 100000 in
set_option maxHeartbeats 1600000 in
theorem frameFinds_any (pa : Nat → Addr) (v : Value) (l : List UInt8) (at_ : Int) (bt : Nat) (p q r : Int) (h1 : -9223372036854775808 ≤ at_) (h2 : at_ ≤ 9223372036854775807) (hb : bt < 4294967296)
    (p1 : -9223372036854775808 ≤ p) (p2 : p ≤ 9223372036854775807) (q1 : -9223372036854775808 ≤ q) (q2 : q ≤ 9223372036854775807) (r1 : -9223372036854775808 ≤ r) (r2 : r ≤ 9223372036854775807)
    (w : World) (hB : Bs (fun _ => True) w v l) (hE : Sent17 w pa) :
    Calls Tryd.prog 3 #[v, .int .i64 at_, .int .u32 bt, .int .i64 p, .int .i64 q, .int .i64 r] w fun e w' => e = .returned (.bool true) ∧ Fr (fun _ => False) w w' := by
  have hB0 := hB
  obtain ⟨a, c, rfl, hlc, hcm, _⟩ := hB
  have hm1 : l.length ≤ 9223372036854775807 := Nat.le_trans hlc hcm
  have HB := hid hB0; have HE := hid hE
  have HBB := hid hb
  clear hB0 hE hlc hcm hb
  by_cases h5 : 500 < l.length
  · have h5' : decide ((500 : Int) < l.length) = true := by simp; omega
    go_enter Tryd.func3, Tryd.ntmps3
    go_wp2_with fail
    refine (first_any _).mono ?_
    rintro e w1 ⟨rfl, hf⟩
    go_wp2_with fail
    go_ret
    exact ⟨rfl, hf⟩
  · have h5' : decide ((500 : Int) < l.length) = false := by simp; omega
    have hL : l.length ≤ 500 := by omega
    go_enter Tryd.func3, Tryd.ntmps3
    go_wp2_with fail
    refine (first_any _).mono ?_
    rintro e w1 ⟨rfl, hf⟩
    have HF := hid hf
    clear hf
    go_wp2_with fail
    refine (seal_any _ _ l w1 (HB.out.frame HF.out (fun _ _ => not_false)) (by omega)).mono ?_
    rintro e w2 ⟨s, rfl, hs, hf2⟩
    have hsl : (sealB l).length = l.length + 4 := by simp [sealB]
    have HF2 := hid (HF.out.trans' hf2)
    have hs2 := own_base hs HF.out.size
    obtain ⟨gs, cs, rfl, hgs, -⟩ := OB.addr hs2 (by omega)
    have HS := hid hs2
    clear hs hf2
    have hn : (sealB l).length ≤ 504 := by omega
    have hn4 : 4 ≤ (sealB l).length := by omega
    have HSL := hid hsl
    clear hsl
    generalize hsb : (sealB l) = sb at *
    have HSB := hid hsb
    clear hsb hs2 h5 h5' hL hm1
    go_wp2_with fail
    refine (number_any at_ (8 * (sb.length : Int)) w2 (by omega) (by omega) h1 h2).mono ?_
    rintro e w3 ⟨rfl, rfl⟩
    obtain ⟨k, hk, hkn⟩ : ∃ k : Nat, at_ % (8 * (sb.length : Int)) = k ∧ k < 8 * sb.length := by
      have g1 := Int.emod_nonneg at_ (show (8 * (sb.length : Int)) ≠ 0 by omega)
      have g2 := Int.emod_lt_of_pos at_ (show 0 < (8 * (sb.length : Int)) by omega)
      exact ⟨(at_ % (8 * (sb.length : Int))).toNat, by omega, by omega⟩
    rw [hk]
    clear hk h1 h2
    go_wp2_with fail
    refine (bytes_any _ _ sb w2 (OB.bs HS.out) (by omega)).mono ?_
    rintro e w3 ⟨t, rfl, ht, hf3⟩
    have HF3 := hid (HF2.out.trans' hf3)
    have HS3 := hid (hf3.own HS.out (fun _ _ => not_false))
    have ht2 := own_base ht HF2.out.size
    have ht3 := ht
    obtain ⟨gt, ct, rfl, hgt, -⟩ := OB.addr ht (by omega)
    have hne : gs ≠ gt := by
      have := (World.block_lt_of_cell? w2 _ (OB.cell HS.out 0 (by omega)).1)
      simp at this
      omega
    have HT := hid ht2
    clear ht hf3 ht2 ht3
    go_wp2_with fail
    go_loopw [18] (fun i wr => ∃ (i' : Nat) (t : List UInt8), i' ≤ 32 ∧ i = .int .i64 i' ∧ t.length = sb.length ∧ Hid (∀ j, bitAt t j = (bitAt sb j ^^ burst k (8 * sb.length) bt i' j)) ∧ OB w.heap.size wr (.slice (some ⟨gt, 0, none⟩) sb.length ct) t ∧ Hid (Fr (fun x => x = gt) w3 wr)) (fun i _ => 32 - (intOf i).toNat)
    case atStart => exact ⟨0, sb, by omega, rfl, rfl, hid (fun j => by rw [burst_zero, Bool.xor_false]), HT.out, hid (Fr.refl _ _)⟩
    case round =>
      obtain ⟨i, t, hi, rfl, htl, htb, hO, hf⟩ := hrel
      have HO := hid hO
      clear hO
      by_cases hc : i < 32 ∧ k + i < 8 * sb.length
      · obtain ⟨hc1, hc2⟩ := hc
        obtain ⟨m, hm⟩ : ∃ m : Nat, (k : Int) + i = m := ⟨k + i, by omega⟩
        have hmn : (m : Int) < 8 * sb.length := by omega
        have hm8 : m / 8 < sb.length := by omega
        have hmlo : (m : Int) / 8 < sb.length := by omega
        have hcl := (OB.cell HO.out (m / 8) (by omega)).1
        have hfz := (OB.cell HO.out (m / 8) (by omega)).2
        have hbt := bit_and bt i HBB.out
        have hxr := xor_u8 (t.getD (m / 8) 0) (m % 8) (Nat.mod_lt _ (by decide))
        have hfl := OB.flip HO.out htl m (by omega)
        generalize hx : t.getD (m / 8) 0 = x at *
        generalize hy : x ^^^ UInt8.ofNat (2 ^ (m % 8)) = y at *
        have HX := hid hx; have HY := hid hy; have HFL := hid hfl; have HM := hid hm
        clear hx hy hfl
        by_cases hbi : bt.testBit i = true
        · rw [if_pos hbi] at hbt
          have HBI := hid hbi
          clear hbi
          go_wp2_with fail
          go_roundw
          case rel =>
            refine ⟨i + 1, flip t m, by omega, by go_num, by simp [htl], hid (fun j => ?_), HFL.out, hid (hf.out.setCell (.inl rfl) _)⟩
            rw [flip_bit _ _ (by omega), htb.out, burst_on _ _ _ _ _ (by omega) HBI.out, Bool.xor_assoc]
            congr 2
            have := HM.out
            rw [show m = k + i by omega]
          case measure => simp [intOf]; omega
        · rw [if_neg hbi] at hbt
          have HBI := hid hbi
          clear hbi
          go_wp2_with fail
          go_roundw
          case rel => exact ⟨i + 1, t, by omega, by go_num, htl, hid (fun j => by rw [htb.out, burst_off _ _ _ _ _ (Bool.eq_false_iff.2 HBI.out)]), HO.out, hf⟩
          case measure => simp [intOf]; omega
      · have hst : Hid (∀ j, bitAt t j = (bitAt sb j ^^ burst k (8 * sb.length) bt 32 j)) := hid (fun j => by
          rw [htb.out]
          by_cases hi3 : i = 32
          · rw [hi3]
          · congr 1
            unfold burst
            by_cases hj : j < 8 * sb.length
            · simp [show j < k + i by omega, show j < k + 32 by omega]
            · simp [hj])
        have hS4 := hf.out.own HS3.out (fun k hk e => by simp [Value.ownBlock] at hk; exact hne (hk.trans e))
        have hF4 : Fr (fun _ => False) w wr := HF3.out.trans hf.out (fun _ _ h => h) (fun x hx e => by have := HF2.out.size; omega)
        have hcv1 := conv_bytes (OB.bs HO.out) 22 5 9 Tryd.underlying22 Tryd.underlying5 Tryd.underlying9
        have hcv2 := conv_bytes (OB.bs hS4) 22 5 9 Tryd.underlying22 Tryd.underlying5 Tryd.underlying9
        have HST := hid hst; have HS4 := hid hS4; have HF4 := hid hF4
        clear htb hst hS4 hF4 hf HS3 HF3 HT
        have hcc : (i < 32 ∧ ¬ (k : Int) + i < 8 * sb.length) ∨ ¬ i < 32 := by omega
        clear hc
        rcases hcc with ⟨hc1, hc2⟩ | hc1
        all_goals
          by_cases hts : t = sb
          · have hq : (t == sb) = true := by rw [beq_iff_eq]; exact hts
            clear hts
            go_wp2_with fail
            refine (bytes_any _ _ sb _ (OB.bs HS4.out) (by omega)).mono ?_
            rintro e w6 ⟨u, rfl, hu, hf6⟩
            have HF6 := hid (HF4.out.trans' hf6)
            have HS6 := hid (hf6.own HS4.out (fun _ _ => not_false))
            have hu2 := own_base hu HF4.out.size
            obtain ⟨gu, cu, rfl, hgu, hgu2⟩ := OB.addr hu (by omega)
            have hne2 : gs ≠ gu := by
              have := (World.block_lt_of_cell? _ _ (OB.cell HS4.out 0 (by omega)).1)
              simp at this
              omega
            have HU := hid hu2
            have HF4s := HF4
            clear hu hf6 hu2 hcv1 hcv2 HF4 HS4
            go_wp2_with fail
            refine (number_any p (8 * (sb.length : Int)) _ (by omega) (by omega) p1 p2).mono ?_
            rintro e w7 ⟨rfl, rfl⟩
            obtain ⟨P, hP, hPn⟩ := num_nat p (8 * sb.length) (by omega)
            rw [show (((8 * sb.length : Nat)) : Int) = 8 * (sb.length : Int) by omega] at hP
            rw [hP]
            clear hP p1 p2
            go_wp2_with fail
            refine (number_any q (8 * (sb.length : Int)) _ (by omega) (by omega) q1 q2).mono ?_
            rintro e w7 ⟨rfl, rfl⟩
            obtain ⟨Q, hQ, hQn⟩ := num_nat q (8 * sb.length) (by omega)
            rw [show (((8 * sb.length : Nat)) : Int) = 8 * (sb.length : Int) by omega] at hQ
            rw [hQ]
            clear hQ q1 q2
            go_wp2_with fail
            refine (number_any r (8 * (sb.length : Int)) _ (by omega) (by omega) r1 r2).mono ?_
            rintro e w7 ⟨rfl, rfl⟩
            obtain ⟨R, hR, hRn⟩ := num_nat r (8 * sb.length) (by omega)
            rw [show (((8 * sb.length : Nat)) : Int) = 8 * (sb.length : Int) by omega] at hR
            rw [hR]
            clear hR r1 r2
            go_wp2_with fail
            have h3 := heap_alloc_new w6 (.cells #[.int .i64 P, .int .i64 Q, .int .i64 R] 3)
            have hU3 := World.ownsRow.alloc HU.out (.cells #[.int .i64 P, .int .i64 Q, .int .i64 R] 3)
            have hS3 := World.ownsRow.alloc HS6.out (.cells #[.int .i64 P, .int .i64 Q, .int .i64 R] 3)
            have hF3 := HF6.out.alloc (.cells #[.int .i64 P, .int .i64 Q, .int .i64 R] 3)
            generalize w6.alloc (.cells #[.int .i64 P, .int .i64 Q, .int .i64 R] 3) = W at *
            have hne3 : w6.heap.size ≠ gu := by omega
            have hgw : w.heap.size ≤ gu := by have := HF4s.out.size; omega
            generalize w6.heap.size = g3 at *
            have H3 := hid h3; have HU3 := hid hU3; have HS3 := hid hS3; have HF3 := hid hF3
            clear h3 hU3 hS3 hF3 HU HS6 HF6
            go_loopw [23] (fun i wr => ∃ (k : Nat) (t : List UInt8), k ≤ 3 ∧ i = .int .i64 k ∧ t.length = sb.length ∧ Hid (∀ j, bitAt t j = (bitAt sb j ^^ three P Q R k j)) ∧ OB w.heap.size wr (.slice (some ⟨gu, 0, none⟩) sb.length cu) t ∧ Hid (Fr (fun x => x = gu) W wr)) (fun i _ => 3 - (intOf i).toNat)
            case atStart => exact ⟨0, sb, by omega, rfl, rfl, hid (fun j => by rw [three_zero, Bool.xor_false]), HU3.out, hid (Fr.refl _ _)⟩
            case round =>
              obtain ⟨k, t, hk, rfl, htl, htb, hO, hf⟩ := hrel
              have HO := hid hO
              clear hO
              by_cases hk3 : k < 3
              · have hx3 : ∃ m : Nat, W.cell? ⟨g3, k, none⟩ = some (.int .i64 m) ∧ m < 8 * sb.length ∧ ∀ j, three P Q R (k + 1) j = (three P Q R k j ^^ (j == m)) := by
                  obtain rfl | rfl | rfl : k = 0 ∨ k = 1 ∨ k = 2 := by omega
                  · exact ⟨P, by rw [cell_of_row _ _ _ _ _ _ H3.out]; rfl, hPn, fun j => rfl⟩
                  · exact ⟨Q, by rw [cell_of_row _ _ _ _ _ _ H3.out]; rfl, hQn, fun j => rfl⟩
                  · exact ⟨R, by rw [cell_of_row _ _ _ _ _ _ H3.out]; rfl, hRn, fun j => rfl⟩
                obtain ⟨m, hcm, hmn, hth⟩ := hx3
                have hcm2 := hf.out.cell hcm hne3
                have hm8 : m / 8 < sb.length := by omega
                have hmlo : (m : Int) / 8 < sb.length := by omega
                have hcl := (OB.cell HO.out (m / 8) (by omega)).1
                have hfz := (OB.cell HO.out (m / 8) (by omega)).2
                have z1 : IntKind.i64.wrap ((m : Int) / 8) = (m : Int) / 8 := IntWalk.i64_in _ (by omega)
                have z2 : ((m : Int) / 8).toNat = m / 8 := by omega
                have z3 : IntKind.u8.wrap (2 ^ min (IntKind.u64.wrap ((m : Int).tmod 8)).toNat 8) = 2 ^ (m % 8) % 256 := shl_u8 m
                have z4 : 0 ≤ (m : Int) / 8 := by omega
                have hxr := xor_u8 (t.getD (m / 8) 0) (m % 8) (Nat.mod_lt _ (by decide))
                have hfl := OB.flip HO.out htl m (by omega)
                generalize hx : t.getD (m / 8) 0 = x at *
                generalize hy : x ^^^ UInt8.ofNat (2 ^ (m % 8)) = y at *
                have HX := hid hx; have HY := hid hy; have HFL := hid hfl; have HTH := hid hth
                clear hx hy hfl hcm hth
                go_wp2_with fail
                refine wp_region_ord [(0, 0), (1, 0), (2, 0), (3, 0), (4, 0), (5, 0), (6, 0), (7, 0), (8, 0), (9, 0), (10, 0), (11, 0), (12, 0), (13, 0), (14, 0), (15, 0), (16, 0), (17, 1)] (fun w' => w'.cell? ⟨g3, k, none⟩ = some (.int .i64 m) ∧ w'.cell? ⟨gu, m / 8, none⟩ = some (.int .u8 x.toNat) ∧ w'.frozen? ⟨gu, m / 8, none⟩ = false) (by kernel_rfl) (by kernel_rfl) (by kernel_rfl) rfl (fun _ _ d _ _ h => by cases d <;> exact h) ⟨hcm2, hcl, hfz⟩ ?_
                iterate 17 (refine wpO_take ?_ rfl (by kernel_rfl) ?_ ?_; rotate_left; (· intro w' hS; go_simp; try with_reducible rfl); try simp only [Act.put, List.setIfInBounds_toArray, List.set_cons_zero, List.set_cons_succ])
                refine wpO_run rfl (by kernel_rfl) (fun K hK => ?_)
                go_simp
                refine hK _ _ (last_skip (by kernel_rfl)) ?_
                clear hK K
                try simp only [Act.put, List.setIfInBounds_toArray, List.set_cons_zero, List.set_cons_succ]
                refine wpO_end ?_
                go_wp2_with fail
                go_roundw
                case rel =>
                  refine ⟨k + 1, flip t m, by omega, by go_num, by simp [htl], hid (fun j => ?_), HFL.out, hid ((hf.out.setCell (.inl rfl) _).drew)⟩
                  rw [flip_bit _ _ (by omega), htb.out, HTH.out, Bool.xor_assoc]
                case measure => simp [intOf]; omega
              · obtain rfl : k = 3 := by omega
                have hF5 : Fr (fun _ => False) w wr := HF3.out.trans hf.out (fun _ _ h => h) (fun x hx e => by have := hgw; omega)
                have hS5 := hf.out.own HS3.out (fun k hk e => by simp [Value.ownBlock] at hk; exact hne2 (hk.trans e))
                have hop : (openB t).2 = 102 := open_not (by omega) (fun h0 => by
                  rw [turned_iff l t (three P Q R 3) (by rw [HSB.out]; exact htl) (fun j _ => by rw [HSB.out]; exact htb.out j)] at h0
                  have e3 : three P Q R 3 = fun j => ((j == P) ^^ (j == Q)) ^^ (j == R) := by funext j; simp [three]
                  rw [e3] at h0
                  exact S_three P Q R (8 * t.length) (by omega) (by omega) (by omega) (by omega) h0)
                have hso : openB sb = (l, 0) := by rw [← HSB.out]; exact seal_opens l
                have htn : (t == sb) = false := by
                  rw [beq_eq_false_iff_ne]
                  intro e
                  rw [e, hso] at hop
                  cases hop
                have HF5 := hid hF5; have HS5 := hid hS5; have HOP := hid hop; have HSO := hid hso; have HTN := hid htn
                clear hF5 hS5 hop hso htn hf HF3 HS3 htb
                go_wp2_with fail
                refine (open_any _ pa _ t wr (OB.bs HO.out) (by omega) (HE.out.s.frame HF5.out)).mono ?_
                rintro e w8 ⟨x8, rfl, -, hf8⟩
                rw [HOP.out]
                have HF8 := hid (HF5.out.trans' hf8); have HO8 := hid (hf8.own HO.out (fun _ _ => not_false)); have HS8 := hid (hf8.own HS5.out (fun _ _ => not_false))
                clear hf8
                go_wp2_with fail
                refine (open_any _ pa _ sb w8 (OB.bs HS8.out) (by omega) (HE.out.s.frame HF8.out)).mono ?_
                rintro e w9 ⟨x9, rfl, hx9, hf9⟩
                rw [HSO.out] at hx9 ⊢
                have hx9 : OB w8.heap.size w9 x9 l := hx9
                have HF9 := hid (HF8.out.trans' hf9); have HO9 := hid (hf9.own HO8.out (fun _ _ => not_false)); have HS9 := hid (hf9.own HS8.out (fun _ _ => not_false)); have HX9 := hid hx9
                clear hf9 hx9
                have hcv1 := fun w' (hw : Fr (fun _ => False) w9 w') => conv_bytes (OB.bs (hw.own HO9.out (fun _ _ => not_false))) 22 5 9 Tryd.underlying22 Tryd.underlying5 Tryd.underlying9
                have hcv2 := fun w' (hw : Fr (fun _ => False) w9 w') => conv_bytes (OB.bs (hw.own HS9.out (fun _ _ => not_false))) 22 5 9 Tryd.underlying22 Tryd.underlying5 Tryd.underlying9
                have hsm : ∀ w', Fr (fun _ => False) w9 w' → Calls Tryd.prog 13 #[x9, .slice a l.length c] w' fun e w'' => e = .returned (.bool true) ∧ ∃ n, w'.drewN n = w'' := fun w' hw => (sameBytes_any _ _ _ _ _ _ w' (OB.bs (hw.own HX9.out (fun _ _ => not_false))) (HB.out.frame (HF9.out.trans' hw) (fun _ _ => not_false))).mono fun _ _ h => ⟨by rw [h.1]; simp, h.2⟩
                have HCV1 := hid hcv1; have HCV2 := hid hcv2; have HSM := hid hsm
                clear hcv1 hcv2 hsm
                unfold errV
                rw [if_neg (show ¬ (102 : Nat) = 0 by decide), if_pos rfl]
                go_wp2_with fail
                refine wp_region_cls (fun w' => Fr (fun _ => False) w9 w') (by kernel_rfl) (by kernel_rfl) (Fr.refl _ _).drew ?_
                iterate 3 (refine q_take ?_ (by kernel_rfl) ?_ ?_; rotate_left; (· intro w' hS; go_simp; try with_reducible rfl); (try simp only [Act.put, List.setIfInBounds_toArray, List.set_cons_zero, List.set_cons_succ]))
                (refine q_take ?_ (by kernel_rfl) ?_ ?_; rotate_left; (· intro w' hS; have hcv := HCV1.out w' hS; go_simp; try with_reducible rfl); (try simp only [Act.put, List.setIfInBounds_toArray, List.set_cons_zero, List.set_cons_succ]))
                (refine q_take ?_ (by kernel_rfl) ?_ ?_; rotate_left; (· intro w' hS; go_simp; try with_reducible rfl); (try simp only [Act.put, List.setIfInBounds_toArray, List.set_cons_zero, List.set_cons_succ]))
                (refine q_take ?_ (by kernel_rfl) ?_ ?_; rotate_left; (· intro w' hS; have hcv := HCV2.out w' hS; go_simp; try with_reducible rfl); (try simp only [Act.put, List.setIfInBounds_toArray, List.set_cons_zero, List.set_cons_succ]))
                have htn := HTN.out
                iterate 9 (refine q_take ?_ (by kernel_rfl) ?_ ?_; rotate_left; (· intro w' hS; go_simp; try with_reducible rfl); (try simp only [Act.put, List.setIfInBounds_toArray, List.set_cons_zero, List.set_cons_succ]))
                (refine q_call ?_ ?_ (by kernel_rfl) ?_ ?_; rotate_left 2; (· intro w' hS; go_simp; first | with_reducible rfl | (constructor <;> with_reducible rfl)); (refine ⟨_, fun w' hw => (HSM.out w' hw).mono fun _ _ h => ⟨h.1, by obtain ⟨n, rfl⟩ := h.2; exact hw.drewN n⟩, ?_⟩); (try simp only [Act.put, List.setIfInBounds_toArray, List.set_cons_zero, List.set_cons_succ]))
                iterate 2 (refine q_take ?_ (by kernel_rfl) ?_ ?_; rotate_left; (· intro w' hS; go_simp; try with_reducible rfl); (try simp only [Act.put, List.setIfInBounds_toArray, List.set_cons_zero, List.set_cons_succ]))
                refine q_end (fun W9 hw9 => ?_)
                have HW9 := hid (HF9.out.trans' hw9)
                clear hw9
                go_wp2_with fail
                go_ret
                exact ⟨rfl, HW9.out⟩
          · have hq : (t == sb) = false := by rw [beq_eq_false_iff_ne]; exact hts
            have HTS := hid hts
            clear hts
            go_wp2_with fail
            refine (open_any _ pa _ t wr (OB.bs HO.out) (by omega) (HE.out.s.frame HF4.out)).mono ?_
            rintro e w4 ⟨x4, rfl, -, hf4⟩
            have hop : (openB t).2 = 102 := open_not (by omega) (fun h0 => by
              rw [turned_iff l t (burst k (8 * sb.length) bt 32) (by rw [HSB.out]; exact htl) (fun j _ => by rw [HSB.out]; exact HST.out j)] at h0
              have hz := S_burst k (8 * t.length) (fun j hj => by simp [burst, show ¬ k ≤ j by omega]) (fun j hj => by
                unfold burst
                rcases hj with hj | hj
                · simp [show ¬ j < k + 32 by omega]
                · simp [show ¬ j < 8 * sb.length by omega]) h0
              exact HTS.out (bits_ext htl (fun j _ => by rw [HST.out, hz, Bool.xor_false])))
            have hno := openB_no t
            rw [hop] at hno ⊢
            have HNO := hid hno
            have HF5 := hid (HF4.out.trans' hf4); have HS5 := hid (hf4.own HS4.out (fun _ _ => not_false))
            clear hno hop hf4
            go_wp2_with fail
            refine (is_num w4 pa (HE.out.frame HF5.out) _ HNO.out _).mono ?_
            rintro e w5 ⟨rfl, hf5⟩
            rw [show decide (((102 : Nat) : Int) = 102) = true by decide]
            have HF4 := hid (HF5.out.trans' hf5); have HS4 := hid (hf5.own HS5.out (fun _ _ => not_false))
            clear hf5
            go_wp2_with fail
            refine (bytes_any _ _ sb _ (OB.bs HS4.out) (by omega)).mono ?_
            rintro e w6 ⟨u, rfl, hu, hf6⟩
            have HF6 := hid (HF4.out.trans' hf6)
            have HS6 := hid (hf6.own HS4.out (fun _ _ => not_false))
            have hu2 := own_base hu HF4.out.size
            obtain ⟨gu, cu, rfl, hgu, hgu2⟩ := OB.addr hu (by omega)
            have hne2 : gs ≠ gu := by
              have := (World.block_lt_of_cell? _ _ (OB.cell HS4.out 0 (by omega)).1)
              simp at this
              omega
            have HU := hid hu2
            have HF4s := HF4
            clear hu hf6 hu2 hcv1 hcv2 HF4 HS4
            go_wp2_with fail
            refine (number_any p (8 * (sb.length : Int)) _ (by omega) (by omega) p1 p2).mono ?_
            rintro e w7 ⟨rfl, rfl⟩
            obtain ⟨P, hP, hPn⟩ := num_nat p (8 * sb.length) (by omega)
            rw [show (((8 * sb.length : Nat)) : Int) = 8 * (sb.length : Int) by omega] at hP
            rw [hP]
            clear hP p1 p2
            go_wp2_with fail
            refine (number_any q (8 * (sb.length : Int)) _ (by omega) (by omega) q1 q2).mono ?_
            rintro e w7 ⟨rfl, rfl⟩
            obtain ⟨Q, hQ, hQn⟩ := num_nat q (8 * sb.length) (by omega)
            rw [show (((8 * sb.length : Nat)) : Int) = 8 * (sb.length : Int) by omega] at hQ
            rw [hQ]
            clear hQ q1 q2
            go_wp2_with fail
            refine (number_any r (8 * (sb.length : Int)) _ (by omega) (by omega) r1 r2).mono ?_
            rintro e w7 ⟨rfl, rfl⟩
            obtain ⟨R, hR, hRn⟩ := num_nat r (8 * sb.length) (by omega)
            rw [show (((8 * sb.length : Nat)) : Int) = 8 * (sb.length : Int) by omega] at hR
            rw [hR]
            clear hR r1 r2
            go_wp2_with fail
            have h3 := heap_alloc_new w6 (.cells #[.int .i64 P, .int .i64 Q, .int .i64 R] 3)
            have hU3 := World.ownsRow.alloc HU.out (.cells #[.int .i64 P, .int .i64 Q, .int .i64 R] 3)
            have hS3 := World.ownsRow.alloc HS6.out (.cells #[.int .i64 P, .int .i64 Q, .int .i64 R] 3)
            have hF3 := HF6.out.alloc (.cells #[.int .i64 P, .int .i64 Q, .int .i64 R] 3)
            generalize w6.alloc (.cells #[.int .i64 P, .int .i64 Q, .int .i64 R] 3) = W at *
            have hne3 : w6.heap.size ≠ gu := by omega
            have hgw : w.heap.size ≤ gu := by have := HF4s.out.size; omega
            generalize w6.heap.size = g3 at *
            have H3 := hid h3; have HU3 := hid hU3; have HS3 := hid hS3; have HF3 := hid hF3
            clear h3 hU3 hS3 hF3 HU HS6 HF6
            go_loopw [23] (fun i wr => ∃ (k : Nat) (t : List UInt8), k ≤ 3 ∧ i = .int .i64 k ∧ t.length = sb.length ∧ Hid (∀ j, bitAt t j = (bitAt sb j ^^ three P Q R k j)) ∧ OB w.heap.size wr (.slice (some ⟨gu, 0, none⟩) sb.length cu) t ∧ Hid (Fr (fun x => x = gu) W wr)) (fun i _ => 3 - (intOf i).toNat)
            case atStart => exact ⟨0, sb, by omega, rfl, rfl, hid (fun j => by rw [three_zero, Bool.xor_false]), HU3.out, hid (Fr.refl _ _)⟩
            case round =>
              obtain ⟨k, t, hk, rfl, htl, htb, hO, hf⟩ := hrel
              have HO := hid hO
              clear hO
              by_cases hk3 : k < 3
              · have hx3 : ∃ m : Nat, W.cell? ⟨g3, k, none⟩ = some (.int .i64 m) ∧ m < 8 * sb.length ∧ ∀ j, three P Q R (k + 1) j = (three P Q R k j ^^ (j == m)) := by
                  obtain rfl | rfl | rfl : k = 0 ∨ k = 1 ∨ k = 2 := by omega
                  · exact ⟨P, by rw [cell_of_row _ _ _ _ _ _ H3.out]; rfl, hPn, fun j => rfl⟩
                  · exact ⟨Q, by rw [cell_of_row _ _ _ _ _ _ H3.out]; rfl, hQn, fun j => rfl⟩
                  · exact ⟨R, by rw [cell_of_row _ _ _ _ _ _ H3.out]; rfl, hRn, fun j => rfl⟩
                obtain ⟨m, hcm, hmn, hth⟩ := hx3
                have hcm2 := hf.out.cell hcm hne3
                have hm8 : m / 8 < sb.length := by omega
                have hmlo : (m : Int) / 8 < sb.length := by omega
                have hcl := (OB.cell HO.out (m / 8) (by omega)).1
                have hfz := (OB.cell HO.out (m / 8) (by omega)).2
                have z1 : IntKind.i64.wrap ((m : Int) / 8) = (m : Int) / 8 := IntWalk.i64_in _ (by omega)
                have z2 : ((m : Int) / 8).toNat = m / 8 := by omega
                have z3 : IntKind.u8.wrap (2 ^ min (IntKind.u64.wrap ((m : Int).tmod 8)).toNat 8) = 2 ^ (m % 8) % 256 := shl_u8 m
                have z4 : 0 ≤ (m : Int) / 8 := by omega
                have hxr := xor_u8 (t.getD (m / 8) 0) (m % 8) (Nat.mod_lt _ (by decide))
                have hfl := OB.flip HO.out htl m (by omega)
                generalize hx : t.getD (m / 8) 0 = x at *
                generalize hy : x ^^^ UInt8.ofNat (2 ^ (m % 8)) = y at *
                have HX := hid hx; have HY := hid hy; have HFL := hid hfl; have HTH := hid hth
                clear hx hy hfl hcm hth
                go_wp2_with fail
                refine wp_region_ord [(0, 0), (1, 0), (2, 0), (3, 0), (4, 0), (5, 0), (6, 0), (7, 0), (8, 0), (9, 0), (10, 0), (11, 0), (12, 0), (13, 0), (14, 0), (15, 0), (16, 0), (17, 1)] (fun w' => w'.cell? ⟨g3, k, none⟩ = some (.int .i64 m) ∧ w'.cell? ⟨gu, m / 8, none⟩ = some (.int .u8 x.toNat) ∧ w'.frozen? ⟨gu, m / 8, none⟩ = false) (by kernel_rfl) (by kernel_rfl) (by kernel_rfl) rfl (fun _ _ d _ _ h => by cases d <;> exact h) ⟨hcm2, hcl, hfz⟩ ?_
                iterate 17 (refine wpO_take ?_ rfl (by kernel_rfl) ?_ ?_; rotate_left; (· intro w' hS; go_simp; try with_reducible rfl); try simp only [Act.put, List.setIfInBounds_toArray, List.set_cons_zero, List.set_cons_succ])
                refine wpO_run rfl (by kernel_rfl) (fun K hK => ?_)
                go_simp
                refine hK _ _ (last_skip (by kernel_rfl)) ?_
                clear hK K
                try simp only [Act.put, List.setIfInBounds_toArray, List.set_cons_zero, List.set_cons_succ]
                refine wpO_end ?_
                go_wp2_with fail
                go_roundw
                case rel =>
                  refine ⟨k + 1, flip t m, by omega, by go_num, by simp [htl], hid (fun j => ?_), HFL.out, hid ((hf.out.setCell (.inl rfl) _).drew)⟩
                  rw [flip_bit _ _ (by omega), htb.out, HTH.out, Bool.xor_assoc]
                case measure => simp [intOf]; omega
              · obtain rfl : k = 3 := by omega
                have hF5 : Fr (fun _ => False) w wr := HF3.out.trans hf.out (fun _ _ h => h) (fun x hx e => by have := hgw; omega)
                have hS5 := hf.out.own HS3.out (fun k hk e => by simp [Value.ownBlock] at hk; exact hne2 (hk.trans e))
                have hop : (openB t).2 = 102 := open_not (by omega) (fun h0 => by
                  rw [turned_iff l t (three P Q R 3) (by rw [HSB.out]; exact htl) (fun j _ => by rw [HSB.out]; exact htb.out j)] at h0
                  have e3 : three P Q R 3 = fun j => ((j == P) ^^ (j == Q)) ^^ (j == R) := by funext j; simp [three]
                  rw [e3] at h0
                  exact S_three P Q R (8 * t.length) (by omega) (by omega) (by omega) (by omega) h0)
                have hso : openB sb = (l, 0) := by rw [← HSB.out]; exact seal_opens l
                have htn : (t == sb) = false := by
                  rw [beq_eq_false_iff_ne]
                  intro e
                  rw [e, hso] at hop
                  cases hop
                have HF5 := hid hF5; have HS5 := hid hS5; have HOP := hid hop; have HSO := hid hso; have HTN := hid htn
                clear hF5 hS5 hop hso htn hf HF3 HS3 htb
                go_wp2_with fail
                refine (open_any _ pa _ t wr (OB.bs HO.out) (by omega) (HE.out.s.frame HF5.out)).mono ?_
                rintro e w8 ⟨x8, rfl, -, hf8⟩
                rw [HOP.out]
                have HF8 := hid (HF5.out.trans' hf8); have HO8 := hid (hf8.own HO.out (fun _ _ => not_false)); have HS8 := hid (hf8.own HS5.out (fun _ _ => not_false))
                clear hf8
                go_wp2_with fail
                refine (open_any _ pa _ sb w8 (OB.bs HS8.out) (by omega) (HE.out.s.frame HF8.out)).mono ?_
                rintro e w9 ⟨x9, rfl, hx9, hf9⟩
                rw [HSO.out] at hx9 ⊢
                have hx9 : OB w8.heap.size w9 x9 l := hx9
                have HF9 := hid (HF8.out.trans' hf9); have HO9 := hid (hf9.own HO8.out (fun _ _ => not_false)); have HS9 := hid (hf9.own HS8.out (fun _ _ => not_false)); have HX9 := hid hx9
                clear hf9 hx9
                have hcv1 := fun w' (hw : Fr (fun _ => False) w9 w') => conv_bytes (OB.bs (hw.own HO9.out (fun _ _ => not_false))) 22 5 9 Tryd.underlying22 Tryd.underlying5 Tryd.underlying9
                have hcv2 := fun w' (hw : Fr (fun _ => False) w9 w') => conv_bytes (OB.bs (hw.own HS9.out (fun _ _ => not_false))) 22 5 9 Tryd.underlying22 Tryd.underlying5 Tryd.underlying9
                have hsm : ∀ w', Fr (fun _ => False) w9 w' → Calls Tryd.prog 13 #[x9, .slice a l.length c] w' fun e w'' => e = .returned (.bool true) ∧ ∃ n, w'.drewN n = w'' := fun w' hw => (sameBytes_any _ _ _ _ _ _ w' (OB.bs (hw.own HX9.out (fun _ _ => not_false))) (HB.out.frame (HF9.out.trans' hw) (fun _ _ => not_false))).mono fun _ _ h => ⟨by rw [h.1]; simp, h.2⟩
                have HCV1 := hid hcv1; have HCV2 := hid hcv2; have HSM := hid hsm
                clear hcv1 hcv2 hsm
                unfold errV
                rw [if_neg (show ¬ (102 : Nat) = 0 by decide), if_pos rfl]
                go_wp2_with fail
                refine wp_region_cls (fun w' => Fr (fun _ => False) w9 w') (by kernel_rfl) (by kernel_rfl) (Fr.refl _ _).drew ?_
                iterate 3 (refine q_take ?_ (by kernel_rfl) ?_ ?_; rotate_left; (· intro w' hS; go_simp; try with_reducible rfl); (try simp only [Act.put, List.setIfInBounds_toArray, List.set_cons_zero, List.set_cons_succ]))
                (refine q_take ?_ (by kernel_rfl) ?_ ?_; rotate_left; (· intro w' hS; have hcv := HCV1.out w' hS; go_simp; try with_reducible rfl); (try simp only [Act.put, List.setIfInBounds_toArray, List.set_cons_zero, List.set_cons_succ]))
                (refine q_take ?_ (by kernel_rfl) ?_ ?_; rotate_left; (· intro w' hS; go_simp; try with_reducible rfl); (try simp only [Act.put, List.setIfInBounds_toArray, List.set_cons_zero, List.set_cons_succ]))
                (refine q_take ?_ (by kernel_rfl) ?_ ?_; rotate_left; (· intro w' hS; have hcv := HCV2.out w' hS; go_simp; try with_reducible rfl); (try simp only [Act.put, List.setIfInBounds_toArray, List.set_cons_zero, List.set_cons_succ]))
                have htn := HTN.out
                iterate 9 (refine q_take ?_ (by kernel_rfl) ?_ ?_; rotate_left; (· intro w' hS; go_simp; try with_reducible rfl); (try simp only [Act.put, List.setIfInBounds_toArray, List.set_cons_zero, List.set_cons_succ]))
                (refine q_call ?_ ?_ (by kernel_rfl) ?_ ?_; rotate_left 2; (· intro w' hS; go_simp; first | with_reducible rfl | (constructor <;> with_reducible rfl)); (refine ⟨_, fun w' hw => (HSM.out w' hw).mono fun _ _ h => ⟨h.1, by obtain ⟨n, rfl⟩ := h.2; exact hw.drewN n⟩, ?_⟩); (try simp only [Act.put, List.setIfInBounds_toArray, List.set_cons_zero, List.set_cons_succ]))
                iterate 2 (refine q_take ?_ (by kernel_rfl) ?_ ?_; rotate_left; (· intro w' hS; go_simp; try with_reducible rfl); (try simp only [Act.put, List.setIfInBounds_toArray, List.set_cons_zero, List.set_cons_succ]))
                refine q_end (fun W9 hw9 => ?_)
                have HW9 := hid (HF9.out.trans' hw9)
                clear hw9
                go_wp2_with fail
                go_ret
                exact ⟨rfl, HW9.out⟩
end Go.Proofs.YtlpbjmgpckhneaaDoor
