/- The statement TaskQuota, walked. -/
import Derived.Test.YtdcfidefkoamnaaDoorTaskWakes
namespace Go.Proofs.YtdcfidefkoamnaaDoor
open Go.RowKit Go.Sort

/-- What holds as the tasks are laid. -/
def PQ (L : List Itm) (t : Nat) : Prop := L.length = t ∧ (∀ x ∈ L, x.id ≤ t ∧ x.own = (x.id - 1) / 16) ∧ Uniq L ∧ (∀ j : Nat, 1 ≤ j → j ≤ t → ∃ x ∈ L, x.id = j) ∧ ∀ o : Nat, ofI L o = min 16 (t - 16 * o)
theorem PQ.snoc {L : List Itm} {t : Nat} (h : PQ L t) (x : Itm) (o : Nat) (ho : o = t / 16) (h1 : x.id = (t : Int) + 1) (h2 : x.own = o) : PQ (L ++ [x]) (t + 1) := by
  obtain ⟨a, b, c, d, f⟩ := h
  refine ⟨by simp [a], fun y hy => ?_, ?_, fun j hj1 hj2 => ?_, fun q => ?_⟩
  · rcases List.mem_append.1 hy with hy | hy
    · have := b y hy; omega
    · simp at hy; subst hy; omega
  · unfold Uniq
    rw [List.pairwise_append]
    refine ⟨c, List.pairwise_singleton .., fun y hy z hz => ?_⟩
    simp at hz
    subst hz
    have := b y hy
    omega
  · by_cases hj : j ≤ t
    · obtain ⟨y, hy, e⟩ := d j hj1 hj
      exact ⟨y, List.mem_append_left _ hy, e⟩
    · exact ⟨x, by simp, by omega⟩
  · rw [ofI_snoc, f q]
    by_cases hq : q = o
    · rw [if_pos (by simp [h2, hq])]
      omega
    · rw [if_neg (by simp [h2]; omega)]
      omega
theorem ofI_erase (L : List Itm) (k : Nat) (x : Itm) (hx : L[k]? = some x) : ofI (L.eraseIdx k) x.own + 1 = ofI L x.own := by
  induction L generalizing k with
  | nil => simp at hx
  | cons y r ih =>
    cases k with
    | zero =>
      simp at hx
      subst hx
      simp [ofI]
    | succ k =>
      have := ih k (by simpa using hx)
      unfold ofI at this ⊢
      rw [List.eraseIdx_cons_succ]
      by_cases h : (y.own == x.own) = true
      · simp only [List.filter_cons, h, if_true, List.length_cons]; omega
      · simp only [List.filter_cons, h]; exact this
theorem PQ.roomNone {L : List Itm} {t : Nat} (h : PQ L t) (o : Nat) (h1 : t < 128) (h2 : t - 16 * o < 16) : roomI L o = 0 := by
  unfold roomI
  have := h.1
  have := h.2.2.2.2 o
  rw [if_neg (by omega), if_neg (by omega)]
theorem PQ.roomMany {L : List Itm} {t : Nat} (h : PQ L t) (o : Nat) (h1 : 128 ≤ t) : roomI L o = 104 := by
  unfold roomI
  have := h.1
  rw [if_pos (by omega)]
theorem PQ.roomFull {L : List Itm} {t : Nat} (h : PQ L t) (o : Nat) (h1 : t < 128) (h2 : 16 ≤ t - 16 * o) : roomI L o = 109 := by
  unfold roomI
  have := h.1
  have := h.2.2.2.2 o
  rw [if_neg (by omega), if_pos (by omega)]

set_option maxRecDepth 100000 in
set_option maxHeartbeats 6400000 in
theorem taskQuota_any (pa : Nat → Addr) (n0 n1 : Int) (b0 : -9223372036854775808 ≤ n0) (c0 : n0 ≤ 9223372036854775807) (b1 : -9223372036854775808 ≤ n1) (c1 : n1 ≤ 9223372036854775807) (w : World) (hS : Sent17 w pa) :
    Calls Tryd.prog 4 #[.int .i64 n0, .int .i64 n1] w fun e w' => e = .returned (.bool true) ∧ Fr (fun _ => False) w w' := by
  obtain ⟨r, hr⟩ : ∃ r : Nat, n0 % 12 = r := ⟨(n0 % 12).toNat, by omega⟩
  have hr2 : r < 12 := by omega
  have HS := hid hS; have HR := hid hr
  have B0 := hid b0; have C0 := hid c0; have B1 := hid b1; have C1 := hid c1
  clear hS hr b0 c0 b1 c1
  go_enter Tryd.func4, Tryd.ntmps4
  go_wp2_with fail
  refine (first_any pa _ HS.out.three).mono ?_
  rintro e w1 ⟨rfl, hf⟩
  have HF := hid hf
  clear hf
  go_wp2_with fail
  refine (number_any n0 12 _ (by omega) (by omega) B0.out C0.out).mono ?_
  rintro e w5 ⟨rfl, rfl⟩
  rw [HR.out]
  go_wp2_with fail
  refine (new_any _).mono ?_
  rintro e w3 ⟨rfl, hq3, hf3⟩
  have HB := hid HF.out.size
  have HF3 := hid (HF.out.trans' hf3); have HQ3 := hid hq3
  generalize w1.heap.size = Bo at *
  clear hq3 hf3 HF HR B0 C0
  go_wp2_with fail
  go_loopw [7, 8] (fun v i wr => ∃ (o t : Nat) (lv : Value) (L : List Itm), o ≤ r + 1 ∧ i = .int .i64 o ∧ v = .int .i64 t ∧ t = min (16 * o) 128 ∧ Hid (QAt Bo wr Bo lv L (t + 1 : Nat)) ∧ Hid (Fr (fun _ => False) w wr) ∧ Hid (PQ L t)) (fun _ i _ => r + 1 - (intOf i).toNat)
  case atStart => exact ⟨0, 0, _, [], Nat.zero_le _, rfl, rfl, rfl, HQ3, HF3, hid ⟨rfl, by simp, List.Pairwise.nil, fun j h1 h2 => by omega, fun o => by simp [ofI]⟩⟩
  case round =>
    clear HQ3 HF3
    obtain ⟨o, t, lv, L, hol, rfl, rfl, ht, HQ, HFw, HP⟩ := hrel
    by_cases hlt : o < r + 1
    · have hlI : decide ((o : Int) < (r : Int) + 1) = true := by simp; omega
      go_wp2_with fail
      clear hlI
      go_loopw [7, 9] (fun v i wr => ∃ (j t : Nat) (lv : Value) (L : List Itm), j ≤ 17 ∧ i = .int .i64 j ∧ v = .int .i64 t ∧ t = min (16 * o + min j 16) 128 ∧ Hid (QAt Bo wr Bo lv L (t + 1 : Nat)) ∧ Hid (Fr (fun _ => False) w wr) ∧ Hid (PQ L t)) (fun _ i _ => 17 - (intOf i).toNat)
      case atStart => exact ⟨0, t, lv, L, Nat.zero_le _, rfl, rfl, by omega, HQ, HFw, HP⟩
      case round =>
        clear HQ HFw HP ht
        obtain ⟨j, t, lv, L, hjl, rfl, rfl, ht, HQ, HFw, HP⟩ := hrel
        have HL6 : Hid (L.length ≤ 1000000) := hid (by have := HP.out.1; omega)
        by_cases hlj : j < 17
        · have hj' : decide ((j : Int) < 17) = true := by simp; omega
          have hjI : (j : Int) < 17 := by omega
          have htI : (t : Int) ≤ 128 := by omega
          by_cases hfit : t < 128 ∧ j < 16
          · have f1 : decide ((t : Int) < 128) = true := by simp; omega
            have f2 : decide ((j : Int) < 16) = true := by simp; omega
            obtain ⟨z, hz⟩ : ∃ z : Itm, z = ⟨(t : Int) + 1, o, j, by omega, by omega, by omega⟩ := ⟨_, rfl⟩
            have hz1 : z.id = (t : Int) + 1 := by rw [hz]
            have hz2 : z.own = o := by rw [hz]
            have hz3 : z.wk = j := by rw [hz]
            have hz0 : addI L z.id z.own z.wk = 0 := by
              rw [hz1, hz2, hz3]
              unfold addI
              rw [if_neg (by omega), if_neg (by omega), HP.out.roomNone o (by omega) (by omega)]
            have hcl := add_good (L := L) pa (HS.out.frame HFw.out).three z (by rw [hz1]; exact HQ.out) HL6.out hz0 (by have := heap_lt HQ.out.heap; omega)
            have hp7 := HP.out.snoc z o (by omega) hz1 hz2
            rw [hz1, hz2, hz3] at hcl
            obtain ⟨L7, hL7⟩ : ∃ L7, L ++ [z] = L7 := ⟨_, rfl⟩
            rw [hL7] at hp7 hcl
            have HCL := hid hcl; have HP7 := hid hp7
            clear hcl hp7 hL7 hz hz1 hz2 hz3 hz0
            go_wp2_with fail
            refine HCL.out.mono ?_
            rintro e w6 ⟨rfl, lv7, hq7, hf7, hb7⟩
            have HF7 := hid (HQ.out.step2 HB.out HFw.out hf7)
            have HQ7 := hid hq7
            clear hq7 hf7 hb7
            go_wp2_with fail
            go_roundw
            case rel => exact ⟨j + 1, t + 1, lv7, L7, by omega, by go_num, by go_num, by omega, HQ7, HF7, HP7⟩
            case measure => simp [intOf]; omega
          · by_cases ht8 : t < 128
            · have hj16 : j = 16 := by omega
              have f2 : decide ((j : Int) < 16) = false := by simp; omega
              have f1 : decide ((t : Int) < 128) = true := by simp; omega
              have hroom := HP.out.roomFull o ht8 (by omega)
              have hz0 : addI L ((t + 1 : Nat) : Int) o j = 109 := by
                unfold addI
                rw [if_neg (by omega), if_neg (by omega), hroom]
              have hcl := add_bad (L := L) pa (HS.out.frame HFw.out).three HQ.out HL6.out o j (by rw [hz0]; omega)
              rw [hz0] at hcl
              have he : errV pa 109 = .iface 124 (.pointer (some (pa 8))) := rfl
              rw [he] at hcl
              have HCL := hid hcl
              have HT := hid (show t = min (16 * o + min j 16) 128 ∧ (128 ≤ t ∨ 16 ≤ j) by omega)
              clear hcl hz0 he hroom ht hfit ht8
              try clear hj16
              go_wp2_with fail
              refine HCL.out.mono ?_
              rintro e w6 ⟨rfl, hf6⟩
              have HF6 := hid (HFw.out.trans' hf6); have HQ6 := hid (HQ.out.fr hf6)
              clear hf6 HFw HQ HCL
              have his := is_num w6 pa (HS.out.frame HF6.out) 109 (.inr (by omega)) 109
              rw [show errV pa 109 = .iface 124 (.pointer (some (pa 8))) from rfl, show decide (((109 : Nat) : Int) = 109) = true from rfl] at his
              have HIS := hid his
              clear his
              go_wp2_with fail
              refine HIS.out.mono ?_
              rintro e w7 ⟨rfl, hf7⟩
              have HF7 := hid (HF6.out.trans' hf7); have HQ7 := hid (HQ6.out.fr hf7)
              clear hf7 HF6 HQ6 HIS
              go_wp2_with fail
              go_roundw
              case rel => exact ⟨j + 1, t, lv, L, by omega, by go_num, rfl, by have := HT.out; omega, HQ7, HF7, HP⟩
              case measure => simp [intOf]; omega
            · have f1 : decide ((t : Int) < 128) = false := by simp; omega
              have hroom := HP.out.roomMany o (by omega)
              have hz0 : addI L ((t + 1 : Nat) : Int) o j = 104 := by
                unfold addI
                rw [if_neg (by omega), if_neg (by omega), hroom]
              have hcl := add_bad (L := L) pa (HS.out.frame HFw.out).three HQ.out HL6.out o j (by rw [hz0]; omega)
              rw [hz0] at hcl
              have he : errV pa 104 = .iface 124 (.pointer (some (pa 3))) := rfl
              rw [he] at hcl
              have HCL := hid hcl
              have HT := hid (show t = min (16 * o + min j 16) 128 ∧ (128 ≤ t ∨ 16 ≤ j) by omega)
              clear hcl hz0 he hroom ht hfit ht8
              try clear hj16
              go_wp2_with fail
              refine HCL.out.mono ?_
              rintro e w6 ⟨rfl, hf6⟩
              have HF6 := hid (HFw.out.trans' hf6); have HQ6 := hid (HQ.out.fr hf6)
              clear hf6 HFw HQ HCL
              have his := is_num w6 pa (HS.out.frame HF6.out) 104 (.inr (by omega)) 109
              rw [show errV pa 104 = .iface 124 (.pointer (some (pa 3))) from rfl, show decide (((104 : Nat) : Int) = 109) = false from rfl] at his
              have HIS := hid his
              clear his
              go_wp2_with fail
              refine HIS.out.mono ?_
              rintro e w7 ⟨rfl, hf7⟩
              have HF7 := hid (HF6.out.trans' hf7); have HQ7 := hid (HQ6.out.fr hf7)
              clear hf7 HF6 HQ6 HIS
              have his := is_num w7 pa (HS.out.frame HF7.out) 104 (.inr (by omega)) 104
              rw [show errV pa 104 = .iface 124 (.pointer (some (pa 3))) from rfl, show decide (((104 : Nat) : Int) = 104) = true from rfl] at his
              have HIS := hid his
              clear his
              go_wp2_with fail
              refine HIS.out.mono ?_
              rintro e w8 ⟨rfl, hf7⟩
              have HF8 := hid (HF7.out.trans' hf7); have HQ8 := hid (HQ7.out.fr hf7)
              clear hf7 HF7 HQ7 HIS
              go_wp2_with fail
              go_roundw
              case rel => exact ⟨j + 1, t, lv, L, by omega, by go_num, rfl, by have := HT.out; omega, HQ8, HF8, HP⟩
              case measure => simp [intOf]; omega
        · obtain rfl : j = 17 := by omega
          go_wp2_with fail
          go_roundw
          case rel => exact ⟨o + 1, t, lv, L, by omega, by go_num, rfl, by omega, HQ, HFw, HP⟩
          case measure => simp [intOf]; omega
    · obtain rfl : o = r + 1 := by omega
      have hlI : decide (((r + 1 : Nat) : Int) < (r : Int) + 1) = false := by simp
      have hs0 : 0 ≤ n1 % (t : Int) := Int.emod_nonneg _ (by omega)
      have hs1 : n1 % (t : Int) < (t : Int) := Int.emod_lt_of_pos _ (by omega)
      obtain ⟨s, hs⟩ : ∃ s : Nat, n1 % (t : Int) = s := ⟨(n1 % (t : Int)).toNat, by omega⟩
      rw [hs] at hs1
      have HSS := hid hs
      have htI : (t : Int) ≤ 128 := by omega
      have htI2 : (16 : Int) ≤ t := by omega
      have HL6 : Hid (L.length ≤ 1000000) := hid (by have := HP.out.1; omega)
      obtain ⟨x, hxm, hxe⟩ := HP.out.2.2.2.1 (s + 1) (by omega) (by omega)
      obtain ⟨j, hj, hjx⟩ := place_of HP.out.2.2.1 hxm
      have hjl := (List.getElem?_eq_some_iff.1 hjx).1
      have hxo : x.own = ((s / 16 : Nat) : Int) := by have := (HP.out.2.1 x hxm).2; omega
      have hno := not_there HP.out.2.2.1 j x hjx
      have hlen : (L.eraseIdx j).length = t - 1 := by rw [List.length_eraseIdx, if_pos hjl]; have := HP.out.1; omega
      have hof := ofI_erase L j x hjx
      have hof2 := HP.out.2.2.2.2 (s / 16)
      have hcl := qkill_yes HQ.out HL6.out x.id j hj hjl
      have hroom : roomI (L.eraseIdx j) ((s / 16 : Nat) : Int) = 0 := by
        unfold roomI
        rw [hxo] at hof
        rw [if_neg (by omega), if_neg (by omega)]
      obtain ⟨L7, hL7⟩ : ∃ L7, L.eraseIdx j = L7 := ⟨_, rfl⟩
      rw [hL7] at hcl hno hlen hroom
      rw [show x.id = (s : Int) + 1 by omega] at hcl hno
      have HCL := hid hcl; have HNO := hid hno; have HLEN := hid hlen; have HROOM := hid hroom
      have HL7 : Hid (L7.length ≤ 1000000) := hid (by omega)
      clear hcl hno hlen hroom hs hs0 hxm hxe hj hjx hjl hxo hof hof2 hL7 ht
      go_wp2_with fail
      refine (number_any n1 _ _ (by omega) (by omega) B1.out C1.out).mono ?_
      rintro e w5 ⟨rfl, rfl⟩
      rw [HSS.out]
      go_wp2_with fail
      refine HCL.out.mono ?_
      rintro e w6 ⟨rfl, lv7, hq7, hf7, hb7⟩
      have HF7 := hid (HQ.out.step2 HB.out HFw.out hf7)
      have HQ7 := hid hq7
      clear hq7 hf7 hb7 HCL HQ HFw
      go_wp2_with fail
      refine (qkill_no HQ7.out HL7.out _ HNO.out).mono ?_
      rintro e w7 ⟨rfl, hf8⟩
      have HF8 := hid (HF7.out.trans' hf8); have HQ8 := hid (HQ7.out.fr hf8)
      clear hf8 HF7 HQ7
      go_wp2_with fail
      refine (qlen_any HQ8.out).mono ?_
      rintro e w12 ⟨rfl, rfl⟩
      rw [HLEN.out]
      rw [show ((t - 1 : Nat) : Int) = (t : Int) - 1 by omega]
      have t1 : ((t : Int) - 1 != (t : Int) - 1) = false := by simp
      obtain ⟨z, hz⟩ : ∃ z : Itm, z = ⟨(t : Int) + 1, (s : Int) / 16, 0, by omega, by omega, by omega⟩ := ⟨_, rfl⟩
      have hz1 : z.id = (t : Int) + 1 := by rw [hz]
      have hz2 : z.own = (s : Int) / 16 := by rw [hz]
      have hz3 : z.wk = 0 := by rw [hz]
      have hz0 : addI L7 z.id z.own z.wk = 0 := by
        rw [hz1, hz2, hz3]
        unfold addI
        rw [if_neg (by omega), if_neg (by omega), show (s : Int) / 16 = ((s / 16 : Nat) : Int) from rfl, HROOM.out]
      have hcl := add_good (L := L7) pa (HS.out.frame HF8.out).three z (by rw [hz1]; exact HQ8.out) HL7.out hz0 (by have := heap_lt HQ8.out.heap; omega)
      have hlen : (L7 ++ [z]).length = t := by rw [List.length_append, HLEN.out]; simp; omega
      rw [hz1, hz2, hz3] at hcl
      obtain ⟨L9, hL9⟩ : ∃ L9, L7 ++ [z] = L9 := ⟨_, rfl⟩
      rw [hL9] at hlen hcl
      have HCL := hid hcl; have HLEN9 := hid hlen
      clear hcl hlen hL9 hz hz1 hz2 hz3 hz0
      go_wp2_with fail
      refine HCL.out.mono ?_
      rintro e w9 ⟨rfl, lv9, hq9, hf9, hb9⟩
      have HF9 := hid (HQ8.out.step2 HB.out HF8.out hf9)
      have HQ9 := hid hq9
      clear hq9 hf9 hb9 HCL HF8 HQ8
      have t2 : ((t : Int) + 1 == (t : Int) + 1) = true := by simp
      have t3 : ((t : Int) == (t : Int)) = true := by simp
      go_wp2_with fail
      refine (qlen_any HQ9.out).mono ?_
      rintro e w12 ⟨rfl, rfl⟩
      rw [HLEN9.out]
      go_wp2_with fail
      go_ret
      exact ⟨rfl, HF9.out⟩
end Go.Proofs.YtdcfidefkoamnaaDoor
