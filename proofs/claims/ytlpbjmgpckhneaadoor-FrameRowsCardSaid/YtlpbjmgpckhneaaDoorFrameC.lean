/- Package frame and the document's: copies, what is sealed. -/
import Derived.Test.YtlpbjmgpckhneaaDoorFrameB
namespace Go.Proofs.YtlpbjmgpckhneaaDoor
open Go.RowKit

theorem clone_any (D : Nat → Prop) (v : Value) (l : List UInt8) (w : World) (hB : Bs D w v l) (hl : l.length ≤ 1073741824) :
    Calls Tryd.prog 24 #[v] w fun e w' => ∃ v', e = .returned v' ∧ OB w.heap.size w' v' l ∧ Fr (fun _ => False) w w' := by
  obtain ⟨a, c, rfl, hlc, hcm, hk⟩ := hB
  cases a with
  | none =>
    have h0 : l = [] := by
      cases l with
      | nil => rfl
      | cons x r => obtain ⟨_, _, e, _⟩ := hk 0 (by simp); cases e
    subst h0
    clear hk
    have hq : (binOp .eql 22 (.slice none 0 c) (.slice none 0 0)).run Tryd.prog w = .ok (.bool true) w := Lib.run_eql_slice_nil _ _ _ _ _ _ _ _ Tryd.underlying22
    go_enter Tryd.func24, Tryd.ntmps24
    go_wp2
    go_ret
    exact ⟨_, rfl, World.ownsRow_nil _ _ _ _, Fr.refl _ _⟩
  | some ad =>
    have hc : ∀ j, j < l.length → ∃ b o, (some ad : Option Addr) = some ⟨b, o, none⟩ ∧ (w.alloc (.cells #[] 5)).cell? ⟨b, o + j, none⟩ = (bV l)[j]? := fun j hj => by
      obtain ⟨b, o, e, _, hc⟩ := hk j hj
      refine ⟨b, o, e, ?_⟩
      rw [alloc_cell _ hc]
      simp [bV, List.getD, hj]
    have ho : (w.alloc (.cells #[] 5)).ownsRow w.heap.size 5 1 (.slice (some ⟨w.heap.size, 0, none⟩) 0 0) 0 [] :=
      ⟨rfl, .inr ⟨w.heap.size, 0, #[], rfl, Nat.le_refl _, heap_alloc_new w _, by simp, by simp, by simp, by simp⟩⟩
    have hF := (Fr.refl (fun _ => False) w).alloc (.cells #[] 5)
    have h1 : ∀ u ∈ bV l, u.oneCell' = true := by
      intro u hu
      simp only [bV, List.mem_map] at hu
      obtain ⟨_, _, rfl⟩ := hu
      rfl
    have HC := hid hc
    have HO := hid ho
    have HF := hid hF
    have H1 := hid h1
    clear hk hc ho hF h1
    have hq : (binOp .eql 22 (.slice (some ad) l.length c) (.slice none 0 0)).run Tryd.prog w = .ok (.bool false) w := Lib.run_eql_slice_nil _ _ _ _ _ _ _ _ Tryd.underlying22
    go_enter Tryd.func24, Tryd.ntmps24
    go_wp2_with (at_builtin; go_must (refine wpList_appendN rfl (.tmp 5) (.tmp 6) 22 rfl 5 (.int .u8 0) 1 Tryd.underlying22 Tryd.info_byte rfl (.slice (some ⟨w.heap.size, 0, none⟩) 0 0) rfl w.heap.size 0 [] HO.out (some ad) l.length c (bV l) rfl (by simp) (fun h => by cases h) HC.out H1.out (by omega) (by decide) (by simp) ?_))
    intro v' w' ho' hf' _
    have HR := hid (OB.fr (l := []) HF.out HO.out hf')
    have HO' := hid ho'
    clear ho' hf'
    go_wp2
    go_ret
    refine ⟨v', rfl, ?_, HR.out⟩
    have := HO'.out
    simpa [OB, bV] using this

theorem bV_one (l : List UInt8) : ∀ u ∈ bV l, u.oneCell' = true := by
  intro u hu
  simp only [bV, List.mem_map] at hu
  obtain ⟨_, _, rfl⟩ := hu
  rfl
theorem OB.snoc {base : Nat} {w : World} {v : Value} {l m : List UInt8} (h : w.ownsRow base 5 1 v (l.length + m.length) (bV l ++ bV m)) : OB base w v (l ++ m) := by
  simpa [OB, bV] using h

theorem bytes_any (D : Nat → Prop) (v : Value) (l : List UInt8) (w : World) (hB : Bs D w v l) (hl : l.length ≤ 1073741824) :
    Calls Tryd.prog 10 #[v] w fun e w' => ∃ v', e = .returned v' ∧ OB w.heap.size w' v' l ∧ Fr (fun _ => False) w w' := by
  obtain ⟨a, c, rfl, hlc, hcm, hk⟩ := hB
  have hm' : l.length ≤ 1073741824 := hl
  have HK := hid hk
  clear hk
  obtain ⟨ii, i1, i2, i3, i4⟩ := info_parts Tryd.info_byte
  go_enter Tryd.func10, Tryd.ntmps10
  go_wp2_with (at_make; refine wpList_make_own _ rfl _ _ 22 rfl w.heap.size 5 ii (.int .u8 0) 1 Tryd.underlying22 i1 i2 i3 .i64 .i64 _ l.length rfl rfl rfl (by rw [i4]; omega) (by unfold maxLen; omega) (Nat.le_refl _) ?_; intro W hown0 hgrow0)
  have hF0 : Fr (fun _ => False) w W := (Fr.of_grownBy hgrow0).mono (fun _ _ e => by cases e)
  have HF0 := hid hF0; have HO0 := hid hown0
  clear hF0 hown0 hgrow0 i1 i2 i3 i4
  go_loopw [3, 4] (fun v i wr => ∃ k : Nat, k ≤ l.length ∧ i = .int .i64 k ∧ OB w.heap.size wr v (l.take k) ∧ Fr (fun _ => False) w wr) (fun _ i _ => l.length - (intOf i).toNat)
  case atStart => exact ⟨0, Nat.zero_le _, rfl, by rw [List.take_zero]; exact HO0.out, HF0.out⟩
  case round =>
    clear HO0 HF0
    obtain ⟨k, hk, rfl, hO, hf⟩ := hrel
    by_cases hlt : k < l.length
    · obtain ⟨b, o, rfl, hDb, hcw⟩ := HK.out k hlt
      have hcr := hf.cell hcw not_false
      have ht := take_snoc l k 0 hlt
      have htl : (l.take k).length = k := by simp; omega
      have hn1 : (l.take k).length + 1 ≤ 1099511627776 := by omega
      generalize l.getD k 0 = ch at *
      have hbs : w.heap.size ≤ (wr.alloc (.cells #[.int .u8 ch.toNat] 5)).heap.size := by have := hf.size; simp; omega
      have hown := World.ownsRow.alloc hO (.cells #[.int .u8 ch.toNat] 5)
      have hc1 := cell_new1 wr (.int .u8 ch.toNat) 5 (0, 0)
      have HT := hid ht; have HTL := hid htl; have HO := hid hO; have HF := hid hf; have HOW := hid hown; have HC1 := hid hc1; have HBS := hid hbs; have HN1 := hid hn1
      clear ht htl hO hf hcw hown hc1 hbs hn1
      go_wp2_with (at_builtin; go_must (refine wpList_append1 rfl (.tmp 14) (.tmp 19) 22 rfl 5 (.int .u8 0) 1 Tryd.underlying22 Tryd.info_byte rfl _ rfl w.heap.size (l.take k).length (bV (l.take k)) HOW.out wr.heap.size 1 (.int .u8 ch.toNat) rfl HC1.out rfl HN1.out (by decide) HBS.out ?_))
      intro g cap w1 ho hf1 _
      have hF1 := OB.fr (HF.out.alloc (.cells #[.int .u8 ch.toNat] 5)) HOW.out hf1
      have hO1 : OB w.heap.size w1 (.slice (some ⟨g, 0, none⟩) (k + 1) cap) (l.take k ++ [ch]) := OB.snoc (by rw [HTL.out]; exact ho)
      rw [← HT.out] at hO1
      have HF1 := hid hF1; have HO1 := hid hO1
      clear ho hf1 hF1 hO1
      go_wp2
      go_roundw
      case rel => exact ⟨k + 1, by omega, by go_num, HO1.out, HF1.out⟩
      case measure => simp [intOf]; omega
    · obtain rfl : k = l.length := by omega
      rw [List.take_length] at hO
      have HO := hid hO; have HF := hid hf
      clear hO hf
      go_wp2
      go_ret
      exact ⟨_, rfl, HO.out, HF.out⟩

theorem rlittle_any (n : Nat) (w : World) (hn : n < 4294967296) :
    Calls Tryd.prog 30 #[.int .u32 n] w fun e w' => ∃ v', e = .returned v' ∧ OB w.heap.size w' v' (le4 n) ∧ Fr (fun _ => False) w w' := by
  have hq := le4_bV n hn
  have ho : (w.alloc (.cells #[.int .u8 ((n : Int) % 256), .int .u8 ((n : Int) / 256 % 256), .int .u8 ((n : Int) / 65536 % 256), .int .u8 ((n : Int) / 16777216)] 5)).ownsRow w.heap.size 5 1 (.slice (some ⟨w.heap.size, 0, none⟩) 4 4) 4 [.int .u8 ((n : Int) % 256), .int .u8 ((n : Int) / 256 % 256), .int .u8 ((n : Int) / 65536 % 256), .int .u8 ((n : Int) / 16777216)] :=
    ⟨rfl, .inr ⟨w.heap.size, 4, _, rfl, Nat.le_refl _, heap_alloc_new w _, by simp, by simp [maxLen], by simp, by simp⟩⟩
  have hF := (Fr.refl (fun _ => False) w).alloc (.cells #[.int .u8 ((n : Int) % 256), .int .u8 ((n : Int) / 256 % 256), .int .u8 ((n : Int) / 65536 % 256), .int .u8 ((n : Int) / 16777216)] 5)
  have HQ := hid hq
  have HO := hid ho
  have HF := hid hF
  clear hq ho hF
  go_enter Tryd.func30, Tryd.ntmps30
  go_wp2
  go_ret
  exact ⟨.slice (some ⟨w.heap.size, 0, none⟩) 4 4, rfl, by unfold OB; rw [HQ.out]; exact HO.out, HF.out⟩

theorem zs_nat (x : BitVec 32) : (zs x).toNat = if x.toNat % 2 = 1 then (x >>> 1 ^^^ 0xedb88320#32).toNat else (x >>> 1).toNat := by
  unfold zs
  have : x.getLsbD 0 = decide (x.toNat % 2 = 1) := by
    rw [BitVec.getLsbD, Nat.testBit_zero]
  rw [this]
  by_cases h : x.toNat % 2 = 1 <;> simp [h]
theorem u_and1 (x : BitVec 32) : bits BinOp.and IntKind.u32 (x.toNat : Int) 1 = ((x.toNat % 2 : Nat) : Int) := by
  have h := u_and x 1#32
  rw [show ((1#32).toNat : Int) = 1 by decide] at h
  rw [h, BitVec.toNat_and, show (1#32).toNat = 2 ^ 1 - 1 by decide, Nat.and_two_pow_sub_one_eq_mod]
theorem rsum_any (D : Nat → Prop) (v : Value) (l : List UInt8) (w : World) (hB : Bs D w v l) :
    Calls Tryd.prog 18 #[v] w fun e w' => e = .returned (.int .u32 ((sumB l).toNat : Nat)) ∧ w = w' := by
  obtain ⟨a, c, rfl, hlc, hcm, hk⟩ := hB
  have hm' : l.length ≤ 9223372036854775807 := Nat.le_trans hlc hcm
  have HK := hid hk
  clear hk
  go_enter Tryd.func18, Tryd.ntmps18
  go_wp2_with fail
  go_loop [3, 4] (fun x i => ∃ k : Nat, k ≤ l.length ∧ i = .int .i64 k ∧ x = .int .u32 ((crc 4294967295#32 (l.take k)).toNat : Nat)) (fun _ i => l.length - (intOf i).toNat)
  case atStart => exact ⟨0, by omega, rfl, rfl⟩
  case round =>
    obtain ⟨k, hkl, rfl, rfl⟩ := hrel
    by_cases hlt : k < l.length
    · have hst := crc_take 4294967295#32 l k hlt
      obtain ⟨b, o, rfl, hDb, hcw⟩ := HK.out k hlt
      have hby := u_byte (l.getD k 0)
      have hb1 := (l.getD k 0).toNat_lt
      generalize l.getD k 0 = ch at *
      generalize crc 4294967295#32 (l.take k) = x at *
      have e0 : bits BinOp.xor IntKind.u32 (x.toNat : Int) (ch.toNat : Int) = ((x ^^^ BitVec.ofNat 32 ch.toNat).toNat : Int) := by rw [hby, u_xor]
      have HS := hid hst
      clear hst hby
      generalize hy : x ^^^ BitVec.ofNat 32 ch.toNat = y at *
      have HY := hid hy
      clear hy
      go_wp2_with fail
      go_loop [3, 5] (fun x i => ∃ j : Nat, j ≤ 8 ∧ i = .int .i64 j ∧ x = .int .u32 ((it zs j y).toNat : Nat)) (fun _ i => 8 - (intOf i).toNat)
      case atStart => exact ⟨0, by omega, rfl, rfl⟩
      case round =>
        obtain ⟨j, hj, rfl, rfl⟩ := hrel
        by_cases hlt2 : j < 8
        · have hz : it zs (j + 1) y = zs (it zs j y) := rfl
          have hz2 := zs_nat (it zs j y)
          have a1 := u_and1 (it zs j y)
          have s1 := u_shr (it zs j y) 1
          have x1 := u_xor (it zs j y >>> 1) (0xedb88320#32)
          rw [show ((2 ^ 1 : Nat) : Int) = 2 by decide] at s1
          rw [show ((0xedb88320#32 : BitVec 32).toNat : Int) = 3988292384 by decide] at x1
          rw [← s1] at x1
          generalize it zs j y = q at *
          have HZ := hid hz
          clear hz
          by_cases hb : q.toNat % 2 = 1
          · rw [if_pos hb] at hz2
            rw [hb] at a1
            have HZ2 := hid hz2; have HB := hid hb; have S1 := hid s1
            clear hz2 hb s1
            go_wp2_with fail
            go_round
            case rel => exact ⟨j + 1, by omega, by go_num, by rw [HZ.out, HZ2.out]; simp⟩
            case measure => simp [intOf]; omega
          · rw [if_neg hb] at hz2
            rw [show q.toNat % 2 = 0 by omega] at a1
            have HZ2 := hid hz2; have HB := hid hb; have S1 := hid s1
            clear hz2 hb s1
            go_wp2_with fail
            go_round
            case rel => exact ⟨j + 1, by omega, by go_num, by rw [HZ.out, HZ2.out, S1.out]⟩
            case measure => simp [intOf]; omega
        · obtain rfl : j = 8 := by omega
          go_wp2_with fail
          go_round
          case rel => exact ⟨k + 1, by omega, by go_num, by rw [HS.out, crcB, HY.out]⟩
          case measure => simp [intOf]; omega
    · obtain rfl : k = l.length := by omega
      rw [List.take_length]
      have hs : bits BinOp.xor IntKind.u32 IntKind.u32.max ((crc 4294967295#32 l).toNat : Int) = ((sumB l).toNat : Int) := u_not _
      have hsg : IntKind.u32.signed = false := rfl
      generalize crc 4294967295#32 l = x at *
      generalize hy : sumB l = y at hs
      have HY := hid hy
      clear hy
      go_wp2_with fail
      go_ret
      exact ⟨ret_int (by rw [HY.out]), rfl⟩

theorem seal_len (l : List UInt8) : (l ++ le4 (sumB l).toNat).length = l.length + 4 := by simp
/-- What is sealed. -/
def sealB (l : List UInt8) : List UInt8 := l ++ le4 (sumB l).toNat
theorem seal_any (D : Nat → Prop) (v : Value) (l : List UInt8) (w : World) (hB : Bs D w v l) (hl : l.length ≤ 1073741824) :
    Calls Tryd.prog 8 #[v] w fun e w' => ∃ v', e = .returned v' ∧ OB w.heap.size w' v' (sealB l) ∧ Fr (fun _ => False) w w' := by
  have HB := hid hB
  clear hB
  go_enter Tryd.func8, Tryd.ntmps8
  go_wp2_with fail
  refine (clone_any D v l w HB.out hl).mono ?_
  rintro e w1 ⟨v1, rfl, ho1, hf1⟩
  have HO1 := hid ho1; have HF1 := hid hf1
  clear ho1 hf1
  go_wp2_with fail
  refine (sum_any D v l w1 (HB.out.frame HF1.out (fun _ _ => not_false))).mono ?_
  rintro e w2 ⟨rfl, hf2⟩
  have HF2 := hid hf2
  clear hf2
  go_wp2_with fail
  refine (little_any w.heap.size v1 l (sumB l).toNat w2 (HF2.out.own HO1.out (fun _ _ => not_false)) (sumB l).isLt hl (by have := HF1.out.size; have := HF2.out.size; omega)).mono ?_
  rintro e w3 ⟨v3, rfl, ho3, hf3⟩
  have HO3 := hid ho3
  have HF3 := hid (OB.fr (HF1.out.trans' HF2.out) (HF2.out.own HO1.out (fun _ _ => not_false)) hf3)
  clear ho3 hf3
  go_wp2_with fail
  go_ret
  exact ⟨_, rfl, HO3.out, HF3.out⟩

theorem rseal_any (D : Nat → Prop) (v : Value) (l : List UInt8) (w : World) (hB : Bs D w v l) (hl : l.length ≤ 1073741824) :
    Calls Tryd.prog 19 #[v] w fun e w' => ∃ v', e = .returned v' ∧ OB w.heap.size w' v' (sealB l) ∧ Fr (fun _ => False) w w' := by
  have HB := hid hB
  clear hB
  go_enter Tryd.func19, Tryd.ntmps19
  go_wp2_with fail
  refine (bytes_any D v l w HB.out hl).mono ?_
  rintro e w1 ⟨v1, rfl, ho1, hf1⟩
  have HO1 := hid ho1; have HF1 := hid hf1
  clear ho1 hf1
  go_wp2_with fail
  refine (rsum_any D v l w1 (HB.out.frame HF1.out (fun _ _ => not_false))).mono ?_
  rintro e w2 ⟨rfl, rfl⟩
  go_wp2_with fail
  refine (rlittle_any (sumB l).toNat w1 (sumB l).isLt).mono ?_
  rintro e w3 ⟨v3, rfl, ho3, hf3⟩
  obtain ⟨ao, c, rfl, -, hn, hc⟩ := own_src ho3
  have HO := hid (hf3.own HO1.out (fun _ _ => not_false)); have HN := hid hn; have HC := hid hc; have HF := hid (HF1.out.trans' hf3)
  clear hn hc ho3 hf3
  go_wp2_with (at_builtin; go_must (refine wpList_appendN rfl (.tmp 4) (.tmp 7) 22 rfl 5 (.int .u8 0) 1 Tryd.underlying22 Tryd.info_byte rfl v1 rfl w.heap.size l.length (bV l) HO.out ao 4 c (bV (le4 (sumB l).toNat)) rfl (by simp) HN.out (by intro j hj; exact HC.out j hj) (bV_one _) (by omega) (by decide) HF.out.size ?_))
  intro v' w' ho' hf' _
  have HF4 := hid (OB.fr HF.out HO.out hf')
  have HO4 := hid ho'
  clear ho' hf'
  go_wp2
  go_ret
  exact ⟨v', rfl, OB.snoc HO4.out, HF4.out⟩
end Go.Proofs.YtlpbjmgpckhneaaDoor
