/- SameBytes, CodeAny: several texts in one: a claim has at most 60 files -/
import Derived.Test.YtbegahbagnflnaaDoorLib
import Derived.Test.YtbegahbagnflnaaDoorMa20
set_option linter.unusedSimpArgs false
set_option linter.unusedVariables false
set_option linter.unnecessarySimpa false
namespace Go.Proofs.YtbegahbagnflnaaDoor
section
open Go.RowKit

theorem takes_eq {α : Type} [DecidableEq α] (la lb : List α) (k : Nat) (h : la.length = lb.length) (hk : la.length ≤ k) (he : la.take k = lb.take k) : la = lb := by
  rw [List.take_of_length_le hk, List.take_of_length_le (by omega)] at he
  exact he

set_option maxHeartbeats 800000 in
theorem sameBytes_any (D E : Nat → Prop) (va vb : Value) (la lb : List UInt8) (w : World) (ha : Bs D w va la) (hb : Bs E w vb lb) :
    Calls Tryd.prog 15 #[va, vb] w fun e w' => e = .returned (.bool (decide (la = lb))) ∧ ∃ n, w.drewN n = w' := by
  obtain ⟨a, c, rfl, ha1, ha2, hak⟩ := ha
  obtain ⟨b, d, rfl, hb1, hb2, hbk⟩ := hb
  have hm1 : la.length ≤ 9223372036854775807 := Nat.le_trans ha1 ha2
  have hm2 : lb.length ≤ 9223372036854775807 := Nat.le_trans hb1 hb2
  clear ha1 ha2 hb1 hb2
  have HA := hid hak; clear hak
  have HB := hid hbk; clear hbk
  by_cases hl : la.length = lb.length
  · have hb : ((la.length : Int) != (lb.length : Int)) = false := by
      rw [bne_eq_false_iff_eq]
      omega
    have HL := hid hl; clear hl
    go_enter Tryd.func15, Tryd.ntmps15
    go_wp2
    go_loopw [5] (fun i wr => ∃ k n : Nat, k ≤ la.length ∧ i = .int .i64 k ∧ la.take k = lb.take k ∧ w.drewN n = wr) (fun i _ => la.length - (intOf i).toNat)
    case atStart => exact ⟨0, 0, Nat.zero_le _, rfl, by simp, rfl⟩
    case round =>
      obtain ⟨k, n, hk, rfl, ht, rfl⟩ := hrel
      by_cases hlt : k < la.length
      · obtain ⟨b1, o1, rfl, _, c1⟩ := HA.out k hlt
        obtain ⟨b2, o2, rfl, _, c2⟩ := HB.out k (by have := HL.out; omega)
        have hlt2 : (k : Int) < lb.length := by have := HL.out; omega
        have h1 := take_snoc la k 0 hlt
        have h2 := take_snoc lb k 0 (by omega)
        have hn : la.getD k 0 ≠ lb.getD k 0 → decide (la = lb) = false := fun h => by
          rw [decide_eq_false_iff_not]
          intro e
          exact h (by rw [e])
        generalize la.getD k 0 = x at *
        generalize lb.getD k 0 = y at *
        have HN := hid hn; clear hn
        have H1 := hid h1; clear h1
        have H2 := hid h2; clear h2
        have HT := hid ht; clear ht
        by_cases he : x = y
        · have hq : ((x.toNat : Int) == (y.toNat : Int)) = true := by rw [beq_iff_eq, he]
          have HE := hid he; clear he
          go_wp2_with fail
          go_quiet (fail)
          go_wp2
          go_roundw
          case rel => exact ⟨k + 1, n + nq, by omega, by go_num, by rw [H1.out, H2.out, HT.out, HE.out], by simp [World.drewN, Nat.add_assoc]⟩
          case measure => simp [intOf]; omega
        · have hq : ((x.toNat : Int) == (y.toNat : Int)) = false := by
            rw [beq_eq_false_iff_ne]
            exact fun h => he (UInt8.toNat.inj (by omega))
          have HE := hid he; clear he
          go_wp2_with fail
          go_quiet (fail)
          go_wp2
          go_ret
          exact ⟨ret_bool (HN.out HE.out).symm, n + nq, by simp [World.drewN, Nat.add_assoc]⟩
      · have hd : decide (la = lb) = true := by
          rw [decide_eq_true_iff]
          exact takes_eq la lb k HL.out (by omega) ht
        have HD := hid hd; clear hd ht
        go_wp2
        go_ret
        exact ⟨ret_bool HD.out.symm, n, rfl⟩
  · have hd : decide (la = lb) = false := by
      rw [decide_eq_false_iff_not]
      intro e
      exact hl (by rw [e])
    have hb : ((la.length : Int) != (lb.length : Int)) = true := by
      rw [bne_iff_ne]
      omega
    rw [hd]
    clear hd
    have HL := hid hl; clear hl
    go_enter Tryd.func15, Tryd.ntmps15
    go_wp2
    go_ret
    exact ⟨rfl, 0, rfl⟩
end
section
open Go.RowKit

theorem Sent17.bound {w : World} {pa : Nat → Addr} (h : Sent17 w pa) : sentB ≤ w.heap.size := Sents.bound h.s
set_option maxRecDepth 100000 in
set_option maxHeartbeats 1600000 in
theorem codeAny_any (pa : Nat → Addr) (v : Value) (b : List UInt8) (D : Nat → Prop) (w : World) (hB : Bs D w v b) (hE : Sent17 w pa) :
    Calls Tryd.prog 4 #[v] w fun e w' => e = .returned (.bool true) ∧ Fr (fun _ => False) w w' := by
  have HFI := hid (cfirst_any pa w hE.five (Nat.le_trans sgb_le hE.bound))
  have HE := hid hE
  have HBS := hid (fun (w2 : World) (hf : Fr (fun _ => False) w w2) => hB.frame hf fun _ _ => not_false)
  obtain ⟨a, c, rfl, hlc, hcm, -⟩ := hB
  have hm : b.length ≤ 9223372036854775807 := Nat.le_trans hlc hcm
  clear hE hlc hcm
  by_cases hl : b.length > 500
  · have hlI : (b.length : Int) > 500 := by omega
    go_enter Tryd.func4, Tryd.ntmps4
    go_wp2_with fail
    refine HFI.out.mono ?_
    rintro e w1 ⟨rfl, hf1⟩
    have HF1 := hid hf1
    clear hf1 HFI
    go_wp2_with fail
    go_ret
    exact ⟨rfl, HF1.out⟩
  have hlI : (b.length : Int) ≤ 500 := by omega
  have HL := hid hl
  clear hl hm
  go_enter Tryd.func4, Tryd.ntmps4
  go_wp2_with fail
  refine HFI.out.mono ?_
  rintro e w1 ⟨rfl, hf1⟩
  have HF1 := hid hf1
  have HRD := hid (cread_any _ pa _ b w1 (HBS.out w1 hf1) (by have := HL.out; omega) (HE.out.s.frame hf1))
  clear hf1 HFI
  go_wp2_with fail
  refine HRD.out.mono ?_
  rintro e w2 ⟨r, ev, rfl, hf2, ⟨-, rfl, hc, hz, hq, K, rfl, hbox⟩ | ⟨-, rfl, rfl⟩⟩
  · have HF2 := hid (HF1.out.trans' hf2)
    have HBX := hid hbox
    have HC := hid hc; have HZ := hid hz; have HQ := hid hq
    have HCK := hid (ccheck_any hbox (by have := sumR_le (readS b).1; have := (pValid_ok hc).2.1; omega))
    clear hf2 hbox hc hz hq HRD
    go_wp2_with fail
    refine HCK.out.mono ?_
    rintro e w3 ⟨rfl, hf3⟩
    have HF3 := hid (HF2.out.trans' hf3)
    have HBY := hid (cbytes_any (HBX.out.fr hf3) (flat_of HC.out (by have := HZ.out; have := HL.out; omega)) (by have := encL_sz (readS b).1; have := HZ.out; have := HL.out; omega))
    clear hf3 HCK
    go_wp2_with fail
    refine HBY.out.mono ?_
    rintro e w4 ⟨v4, rfl, ho4, hf4⟩
    have HF4 := hid (HF3.out.trans' hf4)
    obtain ⟨a4, c4, rfl⟩ := ho4.len
    have HSB := hid (sameBytes_any _ _ _ _ (sealB (encL (readS b).1)) b w4 ho4.bs (HBS.out w4 HF4.out))
    clear ho4 hf4 HBY
    go_wp2_with fail
    refine HSB.out.mono ?_
    rintro e w5 ⟨rfl, n5, rfl⟩
    have HF5 := hid (HF4.out.drewN n5)
    have hd : decide (sealB (encL (readS b).1) = b) = true := decide_eq_true HQ.out
    rw [hd]
    clear hd HSB
    go_wp2_with fail
    go_ret
    exact ⟨rfl, HF5.out⟩
  · have HF2 := hid (HF1.out.trans' hf2)
    clear hf2 HRD
    by_cases hn : (openB b).2 = 0
    · rw [if_pos hn]
      have h0 : errV pa 103 = .iface 175 (.pointer (some (pa 2))) := rfl
      have HI1 := hid (is_num w2 pa (HE.out.frame HF2.out) 103 (.inr ⟨by decide, by decide⟩) 102)
      have HI2 := hid (fun (w3 : World) (hf : Fr (fun _ => False) w w3) => is_num w3 pa (HE.out.frame hf) 103 (.inr ⟨by decide, by decide⟩) 103)
      rw [h0] at HI1 HI2 ⊢
      clear h0
      go_wp2_with fail
      refine HI1.out.mono ?_
      rintro e w3 ⟨rfl, hf3⟩
      have HF3 := hid (HF2.out.trans' hf3)
      clear hf3 HI1
      go_wp2_with fail
      refine (HI2.out w3 HF3.out).mono ?_
      rintro e w4 ⟨rfl, hf4⟩
      have HF4 := hid (HF3.out.trans' hf4)
      clear hf4 HI2
      go_wp2_with fail
      go_ret
      exact ⟨rfl, HF4.out⟩
    · rw [if_neg hn]
      have h0 : errV pa 102 = .iface 175 (.pointer (some (pa 1))) := rfl
      have HI1 := hid (is_num w2 pa (HE.out.frame HF2.out) 102 (.inr ⟨by decide, by decide⟩) 102)
      rw [h0] at HI1 ⊢
      clear h0
      go_wp2_with fail
      refine HI1.out.mono ?_
      rintro e w3 ⟨rfl, hf3⟩
      have HF3 := hid (HF2.out.trans' hf3)
      clear hf3 HI1
      go_wp2_with fail
      go_ret
      exact ⟨rfl, HF3.out⟩
end
end Go.Proofs.YtbegahbagnflnaaDoor
