/- Contracts of package inglenookref's small functions. -/
import Derived.Test.YtlhbgobjhddhlaaGreatDoorLib
namespace Go.Proofs.YtlhbgobjhddhlaaGreatDoor
open Go.RowKit

theorem takes_eq {α : Type} [DecidableEq α] (la lb : List α) (k : Nat) (h : la.length = lb.length) (hk : la.length ≤ k) (he : la.take k = lb.take k) : la = lb := by
  rw [List.take_of_length_le hk, List.take_of_length_le (by omega)] at he
  exact he

set_option maxHeartbeats 800000 in
theorem sameTexts_any (D E : Nat → Prop) (va vb : Value) (la lb : List ByteArray) (w : World) (ha : Ss D w va la) (hb : Ss E w vb lb) :
    Calls Tryz.prog 61 #[va, vb] w fun e w' => e = .returned (.bool (decide (la = lb))) ∧ ∃ n, w.drewN n = w' := by
  obtain ⟨a, c, rfl, ha1, ha2, hak⟩ := ha
  obtain ⟨b, d, rfl, hb1, hb2, hbk⟩ := hb
  have hm1 : la.length ≤ 9223372036854775807 := Nat.le_trans ha1 ha2
  have hm2 : lb.length ≤ 9223372036854775807 := Nat.le_trans hb1 hb2
  clear ha1 ha2 hb1 hb2
  have HA := hid hak; clear hak
  have HB := hid hbk; clear hbk
  by_cases hl : la.length = lb.length
  · have hb : ((la.length : Int) != (lb.length : Int)) = false := by
      rw [bne_eq_false_iff_eq]
      omega
    have HL := hid hl; clear hl
    go_enter Tryz.func61, Tryz.ntmps61
    go_wp2
    go_loopw [5] (fun i wr => ∃ k n : Nat, k ≤ la.length ∧ i = .int .i64 k ∧ la.take k = lb.take k ∧ w.drewN n = wr) (fun i _ => la.length - (intOf i).toNat)
    case atStart => exact ⟨0, 0, Nat.zero_le _, rfl, by simp, rfl⟩
    case round =>
      obtain ⟨k, n, hk, rfl, ht, rfl⟩ := hrel
      by_cases hlt : k < la.length
      · obtain ⟨b1, o1, rfl, _, c1⟩ := HA.out k hlt
        obtain ⟨b2, o2, rfl, _, c2⟩ := HB.out k (by have := HL.out; omega)
        have hlt2 : (k : Int) < lb.length := by have := HL.out; omega
        have h1 := take_snoc la k ByteArray.empty hlt
        have h2 := take_snoc lb k ByteArray.empty (by omega)
        have hn : la.getD k ByteArray.empty ≠ lb.getD k ByteArray.empty → decide (la = lb) = false := fun h => by
          rw [decide_eq_false_iff_not]
          intro e
          exact h (by rw [e])
        generalize la.getD k ByteArray.empty = x at *
        generalize lb.getD k ByteArray.empty = y at *
        have HN := hid hn; clear hn
        have H1 := hid h1; clear h1
        have H2 := hid h2; clear h2
        have HT := hid ht; clear ht
        by_cases he : x = y
        · have hq : (x.toList == y.toList) = true := by rw [beq_iff_eq, he]
          have HE := hid he; clear he
          go_wp2_with fail
          go_quiet (fail)
          go_wp2
          go_roundw
          case rel => exact ⟨k + 1, n + nq, by omega, by go_num, by rw [H1.out, H2.out, HT.out, HE.out], by simp [World.drewN, Nat.add_assoc]⟩
          case measure => simp [intOf]; omega
        · have hq : (x.toList == y.toList) = false := by
            rw [beq_eq_false_iff_ne, ByteArray.toList_eq, ByteArray.toList_eq]
            exact fun h => he (ByteArray.ext (Array.toList_inj.1 h))
          have HE := hid he; clear he
          go_wp2_with fail
          go_quiet (fail)
          go_wp2
          go_ret
          exact ⟨ret_bool (HN.out HE.out).symm, n + nq, by simp [World.drewN, Nat.add_assoc]⟩
      · have hd : decide (la = lb) = true := by
          rw [decide_eq_true_iff]
          exact takes_eq la lb k HL.out (by omega) ht
        have HD := hid hd; clear hd ht
        go_wp2
        go_ret
        exact ⟨ret_bool HD.out.symm, n, rfl⟩
  · have hd : decide (la = lb) = false := by
      rw [decide_eq_false_iff_not]
      intro e
      exact hl (by rw [e])
    have hb : ((la.length : Int) != (lb.length : Int)) = true := by
      rw [bne_iff_ne]
      omega
    rw [hd]
    clear hd
    have HL := hid hl; clear hl
    go_enter Tryz.func61, Tryz.ntmps61
    go_wp2
    go_ret
    exact ⟨rfl, 0, rfl⟩
end Go.Proofs.YtlhbgobjhddhlaaGreatDoor
