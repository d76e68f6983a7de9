/- The statement TaskWakes, walked. -/
import Derived.Test.YtdcfidefkoamnaaDoorTaskTurns
import Derived.Test.YtdcfidefkoamnaaDoorNumber
namespace Go.Proofs.YtdcfidefkoamnaaDoor
open Go.RowKit Go.Sort

/-- What holds as the tasks are laid. -/
def PW (L : List Itm) (k : Nat) : Prop := L.length = k ∧ (∀ x ∈ L, x.own = 0 ∧ x.id ≤ k ∧ x.wk = -1) ∧ Uniq L ∧ ∀ j : Nat, 1 ≤ j → j ≤ k → ∃ x ∈ L, x.id = j
theorem PW.snoc {L : List Itm} {k : Nat} (h : PW L k) (x : Itm) (h1 : x.id = (k : Int) + 1) (h2 : x.own = 0) (h3 : x.wk = -1) : PW (L ++ [x]) (k + 1) := by
  obtain ⟨a, b, c, d⟩ := h
  refine ⟨by simp [a], fun y hy => ?_, ?_, fun j hj1 hj2 => ?_⟩
  · rcases List.mem_append.1 hy with hy | hy
    · have := b y hy; omega
    · simp at hy; subst hy; omega
  · unfold Uniq
    rw [List.pairwise_append]
    refine ⟨c, List.pairwise_singleton .., fun y hy z hz => ?_⟩
    simp at hz
    subst hz
    have := b y hy
    omega
  · by_cases hj : j ≤ k
    · obtain ⟨y, hy, e⟩ := d j hj1 hj
      exact ⟨y, List.mem_append_left _ hy, e⟩
    · exact ⟨x, by simp, by omega⟩
theorem PW.room {L : List Itm} {k : Nat} (h : PW L k) (hk : k < 16) : roomI L 0 = 0 := by
  unfold roomI
  have := h.1
  have := ofI_le L 0
  rw [if_neg (by omega), if_neg (by omega)]
theorem uniq_set {L : List Itm} (hU : Uniq L) (k : Nat) (x y : Itm) (hx : L[k]? = some x) (he : y.id = x.id) : Uniq (L.set k y) := by
  unfold Uniq at *
  obtain ⟨hk, hxe⟩ := List.getElem?_eq_some_iff.1 hx
  rw [List.pairwise_iff_getElem] at *
  intro i j hi hj hij
  simp only [List.length_set] at hi hj
  rw [List.getElem_set, List.getElem_set]
  have := hU i j hi hj hij
  split
  · rename_i e
    subst e
    rw [if_neg (by omega)]
    rw [hxe] at this
    rw [he]
    exact this
  · split
    · rename_i e
      subst e
      rw [hxe] at this
      rw [he]
      exact this
    · exact this
/-- The one that was woken stands first. -/
theorem PW.first {L : List Itm} {k : Nat} (h : PW L k) (j : Nat) (x : Itm) (hx : L[j]? = some x) (y : Itm) (hy : y.wk ≠ -1) (he : y.id = x.id) : First (L.set j y) y ∧ Uniq (L.set j y) ∧ (L.set j y)[j]? = some y ∧ (L.set j y).length = k ∧ ∀ z ∈ L.set j y, z = y ∨ (z ∈ L ∧ z.wk = -1) := by
  obtain ⟨hj, -⟩ := List.getElem?_eq_some_iff.1 hx
  have hall : ∀ z ∈ L.set j y, z = y ∨ (z ∈ L ∧ z.wk = -1) := fun z hz => by
    rcases List.mem_or_eq_of_mem_set hz with h1 | h1
    · exact .inr ⟨h1, (h.2.1 z h1).2.2⟩
    · exact .inl h1
  have hg : (L.set j y)[j]? = some y := by rw [List.getElem?_set_self hj]
  refine ⟨⟨List.mem_of_getElem? hg, fun z hz => ?_⟩, uniq_set h.2.2.1 j x y hx he, hg, by rw [List.length_set]; exact h.1, hall⟩
  unfold Ahd
  rcases hall z hz with rfl | ⟨-, h1⟩
  · omega
  · omega
theorem not_there {L : List Itm} (hU : Uniq L) (j : Nat) (y : Itm) (hy : L[j]? = some y) : ∀ z ∈ L.eraseIdx j, z.id ≠ y.id := by
  intro z hz e
  obtain ⟨i, hi, rfl⟩ := List.getElem_of_mem hz
  obtain ⟨hkl, hkx⟩ := List.getElem?_eq_some_iff.1 hy
  have hpw := List.pairwise_iff_getElem.1 hU
  rw [List.getElem_eraseIdx] at e
  have hil : i < L.length - 1 := by rw [List.length_eraseIdx] at hi; simp [hkl] at hi; exact hi
  split at e
  · rename_i hik
    exact hpw i j (by omega) hkl hik (by rw [hkx]; exact e)
  · rename_i hik
    exact hpw j (i + 1) hkl (by omega) (by omega) (by rw [hkx]; exact e.symm)

set_option maxRecDepth 100000 in
set_option maxHeartbeats 6400000 in
theorem taskWakes_any (pa : Nat → Addr) (n0 n1 n2 : Int) (b0 : -9223372036854775808 ≤ n0) (c0 : n0 ≤ 9223372036854775807) (b1 : -9223372036854775808 ≤ n1) (c1 : n1 ≤ 9223372036854775807) (b2 : -9223372036854775808 ≤ n2) (c2 : n2 ≤ 9223372036854775807) (w : World) (hS : S3 w pa) :
    Calls Tryd.prog 5 #[.int .i64 n0, .int .i64 n1, .int .i64 n2] w fun e w' => e = .returned (.bool true) ∧ Fr (fun _ => False) w w' := by
  obtain ⟨r, hr⟩ : ∃ r : Nat, n0 % 16 = r := ⟨(n0 % 16).toNat, by omega⟩
  have hr2 : r < 16 := by omega
  have hs0 : 0 ≤ n1 % ((r : Int) + 1) := Int.emod_nonneg _ (by omega)
  have hs1 : n1 % ((r : Int) + 1) < (r : Int) + 1 := Int.emod_lt_of_pos _ (by omega)
  obtain ⟨s, hs⟩ : ∃ s : Nat, n1 % ((r : Int) + 1) = s := ⟨(n1 % ((r : Int) + 1)).toNat, by omega⟩
  rw [hs] at hs1
  have hm := and_mask n2 1023 (by omega)
  obtain ⟨y, hy⟩ : ∃ y, bits .and .i64 n2 ((1023 : Nat) : Int) = y := ⟨_, rfl⟩
  rw [hy] at hm
  obtain ⟨hm1, hm2⟩ := hm
  have HS := hid hS; have HR := hid hr; have HSS := hid hs; have HY := hid (show bits .and .i64 n2 1023 = y from hy)
  have B0 := hid b0; have C0 := hid c0; have B1 := hid b1; have C1 := hid c1
  clear hS hr hs hs0 hy b0 c0 b1 c1 b2 c2
  go_enter Tryd.func5, Tryd.ntmps5
  go_wp2_with fail
  refine (first_any pa _ HS.out).mono ?_
  rintro e w1 ⟨rfl, hf⟩
  have HF := hid hf
  clear hf
  go_wp2_with fail
  refine (number_any n0 16 _ (by omega) (by omega) B0.out C0.out).mono ?_
  rintro e w5 ⟨rfl, rfl⟩
  rw [HR.out]
  go_wp2_with fail
  refine (number_any n1 _ _ (by omega) (by omega) B1.out C1.out).mono ?_
  rintro e w5 ⟨rfl, rfl⟩
  rw [HSS.out]
  have hy := HY.out
  go_wp2_with fail
  refine (new_any _).mono ?_
  rintro e w3 ⟨rfl, hq3, hf3⟩
  have HB := hid HF.out.size
  have HF3 := hid (HF.out.trans' hf3); have HQ3 := hid hq3
  generalize w1.heap.size = Bo at *
  clear hq3 hf3 HF HY HR HSS hy B0 C0 B1 C1
  go_wp2_with fail
  go_loopw [9] (fun i wr => ∃ (k : Nat) (lv : Value) (L : List Itm), k ≤ r + 1 ∧ i = .int .i64 k ∧ Hid (QAt Bo wr Bo lv L (k + 1 : Nat)) ∧ Hid (Fr (fun _ => False) w wr) ∧ Hid (PW L k)) (fun i _ => r + 1 - (intOf i).toNat)
  case atStart => exact ⟨0, _, [], Nat.zero_le _, rfl, HQ3, HF3, hid ⟨rfl, by simp, List.Pairwise.nil, fun j h1 h2 => by omega⟩⟩
  case round =>
    clear HQ3 HF3
    obtain ⟨k, lv, L, hkl, rfl, HQ, HFw, HP⟩ := hrel
    have HL6 : Hid (L.length ≤ 1000000) := hid (by have := HP.out.1; omega)
    by_cases hlt : k < r + 1
    · have hlI : (k : Int) < (r : Int) + 1 := by omega
      obtain ⟨z, hz⟩ : ∃ z : Itm, z = ⟨(k : Int) + 1, 0, -1, by omega, by omega, by omega⟩ := ⟨_, rfl⟩
      have hz1 : z.id = (k : Int) + 1 := by rw [hz]
      have hz2 : z.own = 0 := by rw [hz]
      have hz3 : z.wk = -1 := by rw [hz]
      have hz0 : addI L z.id z.own z.wk = 0 := by
        rw [hz1, hz2, hz3]
        unfold addI
        rw [if_neg (by omega), if_neg (by omega), HP.out.room (by omega)]
      have hcl := add_good (L := L) pa (HS.out.frame HFw.out) z (by rw [hz1]; exact HQ.out) HL6.out hz0 (by have := heap_lt HQ.out.heap; omega)
      have hp7 := HP.out.snoc z hz1 hz2 hz3
      rw [hz1, hz2, hz3] at hcl
      obtain ⟨L7, hL7⟩ : ∃ L7, L ++ [z] = L7 := ⟨_, rfl⟩
      rw [hL7] at hp7 hcl
      have HCL := hid hcl; have HP7 := hid hp7
      clear hcl hp7 hL7 hz hz1 hz2 hz3 hz0
      go_wp2_with fail
      refine HCL.out.mono ?_
      rintro e w6 ⟨rfl, lv7, hq7, hf7, hb7⟩
      have HF7 := hid (HQ.out.step2 HB.out HFw.out hf7)
      have HQ7 := hid hq7
      clear hq7 hf7 hb7
      go_wp2_with fail
      go_roundw
      case rel => exact ⟨k + 1, lv7, L7, by omega, by go_num, HQ7, HF7, HP7⟩
      case measure => simp [intOf]; omega
    · obtain rfl : k = r + 1 := by omega
      have hlI : ¬ ((r + 1 : Nat) : Int) < (r : Int) + 1 := by omega
      have HCL := hid (qdue_no HQ.out HL6.out 9223372036854775807 (fun x hx => .inl (HP.out.2.1 x hx.1).2.2))
      obtain ⟨x, hxm, hxe⟩ := HP.out.2.2.2 (s + 1) (by omega) (by omega)
      obtain ⟨j, hj, hjx⟩ := place_of HP.out.2.2.1 hxm
      have hfst := HP.out.first j x hjx (x.at y (by omega)) (by show y ≠ -1; omega) rfl
      have HNO := hid (fun z hz e => by have := (HP.out.2.1 z hz).2.1; omega : ∀ z ∈ L, z.id ≠ (r : Int) + 1 + 1)
      have HJ := hid hj; have HJX := hid hjx; have HFST := hid hfst; have HXE := hid (show x.id = (s : Int) + 1 by omega)
      clear hxm hj hjx hfst hxe
      go_wp2_with fail
      refine HCL.out.mono ?_
      rintro e w6 ⟨rfl, hf7⟩
      have hfa := hf7.alloc (.cells #[.int .i64 0, .int .i64 0, .int .i64 0] 31)
      have HF6 := hid (HFw.out.trans' hfa); have HQ6 := hid (HQ.out.fr hfa)
      clear hf7 hfa HCL HQ HFw
      go_wp2_with fail
      refine (qwake_yes HQ6.out HL6.out ((s : Int) + 1) y j x (by rw [← HXE.out]; exact HJ.out) HJX.out (by omega)).mono ?_
      rintro e w7 ⟨rfl, hq7, hf7⟩
      obtain ⟨z, hz⟩ : ∃ z : Itm, z = x.at y (by omega) := ⟨_, rfl⟩
      have hfst := HFST.out
      rw [← hz] at hfst hq7
      have hz1 : z.id = (s : Int) + 1 := by rw [hz]; exact HXE.out
      have hz3 : z.wk = y := by rw [hz]; rfl
      have hnoZ : ∀ u ∈ L.set j z, u.id ≠ (r : Int) + 1 + 1 := fun u hu e => by
        rcases hfst.2.2.2.2 u hu with h | h
        · rw [h, hz1] at e; omega
        · exact HNO.out u h.1 e
      obtain ⟨L7, hL7⟩ : ∃ L7, L.set j z = L7 := ⟨_, rfl⟩
      rw [hL7] at hfst hq7 hnoZ
      have HZ1 := hid hz1; have HZ3 := hid hz3; have HFST := hid hfst; have HQ7 := hid hq7; have HNZ := hid hnoZ
      have HF7 := hid (HQ6.out.step2 HB.out HF6.out hf7)
      have HL7 : Hid (L7.length ≤ 1000000) := hid (by have := HFST.out.2.2.2.1; omega)
      clear hfst hq7 hf7 hz hL7 hz1 hz3 HQ6 HF6 hnoZ HNO HJ HJX HXE HL6
      go_wp2_with fail
      refine (qwake_no HQ7.out HL7.out _ 5 (.inl HNZ.out)).mono ?_
      rintro e w8 ⟨rfl, hf8⟩
      have HF8 := hid (HF7.out.trans' hf8); have HQ8 := hid (HQ7.out.fr hf8)
      clear hf8 HF7 HQ7
      go_wp2_with fail
      refine (qwake_no HQ8.out HL7.out _ (-2) (.inr (by omega))).mono ?_
      rintro e w9 ⟨rfl, hf9⟩
      have HF9 := hid (HF8.out.trans' hf9); have HQ9 := hid (HQ8.out.fr hf9)
      clear hf9 HF8 HQ8
      go_wp2_with fail
      have hcl := qdue_yes HQ9.out HL7.out y z HFST.out.1 HFST.out.2.1 (by rw [HZ3.out]; omega) (by rw [HZ3.out]; omega)
      rw [HZ1.out, HZ3.out] at hcl
      refine hcl.mono ?_
      clear hcl
      rintro e w10 ⟨rfl, hf10⟩
      have hfa := hf10.alloc (.cells #[.int .i64 ((s : Int) + 1), .int .i64 z.own, .int .i64 y] 31)
      have hxr := heap_alloc_new w10 (.cells #[.int .i64 ((s : Int) + 1), .int .i64 z.own, .int .i64 y] 31)
      have x0 : (w10.alloc (.cells #[.int .i64 ((s : Int) + 1), .int .i64 z.own, .int .i64 y] 31)).cell? ⟨w10.heap.size, 0, none⟩ = some (.int .i64 ((s : Int) + 1)) := by rw [cell_of_row _ _ _ _ _ _ hxr]; rfl
      have x2 : (w10.alloc (.cells #[.int .i64 ((s : Int) + 1), .int .i64 z.own, .int .i64 y] 31)).cell? ⟨w10.heap.size, 2, none⟩ = some (.int .i64 y) := by rw [cell_of_row _ _ _ _ _ _ hxr]; rfl
      have HF10 := hid (HF9.out.trans' hfa); have HQ10 := hid (HQ9.out.fr hfa)
      clear hf10 hfa hxr HF9 HQ9
      have t1 : ((s : Int) + 1 != (s : Int) + 1) = false := by simp
      have t2 : (y != y) = false := by simp
      by_cases hy0 : 0 < y
      · have t3 : decide (0 < y) = true := by simp; omega
        have hyI : y ≤ 1023 := by omega
        go_wp2_with fail
        refine (qdue_no HQ10.out HL7.out (y - 1) (fun x hx => by
          rw [First.eq HFST.out.2.1 hx HFST.out.1, HZ3.out]; omega)).mono ?_
        rintro e w14 ⟨rfl, hf14⟩
        have hfa := hf14.alloc (.cells #[.int .i64 0, .int .i64 0, .int .i64 0] 31)
        have HF10' := hid (HF10.out.trans' hfa); have HQ10' := hid (HQ10.out.fr hfa)
        clear hf14 hfa HF10 HQ10 x0 x2
        go_wp2_with fail
        obtain ⟨k7, hk7, hkz⟩ := place_of HFST.out.2.1 HFST.out.1.1
        have hkl := (List.getElem?_eq_some_iff.1 hkz).1
        have hcl := qtake_yes HQ10'.out HL7.out y z HFST.out.1 HFST.out.2.1 (by rw [HZ3.out]; omega) (by rw [HZ3.out]; omega) k7 hk7 hkl
        rw [HZ1.out, HZ3.out] at hcl
        have hno := not_there HFST.out.2.1 k7 z hkz
        have hlen : (L7.eraseIdx k7).length = r := by rw [List.length_eraseIdx, if_pos hkl]; have := HFST.out.2.2.2.1; omega
        obtain ⟨L8, hL8⟩ : ∃ L8, L7.eraseIdx k7 = L8 := ⟨_, rfl⟩
        rw [hL8] at hcl hno hlen
        rw [HZ1.out] at hno
        have HNO := hid hno; have HLEN := hid hlen
        have HL8 : Hid (L8.length ≤ 1000000) := hid (by omega)
        clear hno hlen hL8 hk7 hkz hkl
        refine hcl.mono ?_
        clear hcl
        rintro e w11 ⟨rfl, lv8, hq11, hf11, hb11⟩
        have hF := HQ10'.out.step2 HB.out HF10'.out hf11
        have hfa := (Fr.refl (fun _ => False) w11).alloc (.cells #[.int .i64 ((s : Int) + 1), .int .i64 z.own, .int .i64 y] 31)
        have hxr := heap_alloc_new w11 (.cells #[.int .i64 ((s : Int) + 1), .int .i64 z.own, .int .i64 y] 31)
        have x0 : (w11.alloc (.cells #[.int .i64 ((s : Int) + 1), .int .i64 z.own, .int .i64 y] 31)).cell? ⟨w11.heap.size, 0, none⟩ = some (.int .i64 ((s : Int) + 1)) := by rw [cell_of_row _ _ _ _ _ _ hxr]; rfl
        have HF11 := hid (hF.trans' hfa); have HQ11 := hid (hq11.fr hfa)
        have t5 : ((s : Int) + 1 == (s : Int) + 1) = true := by simp
        clear hq11 hf11 hb11 hF hfa hxr HF10' HQ10'
        go_wp2_with fail
        refine (qlen_any HQ11.out).mono ?_
        rintro e w12 ⟨rfl, rfl⟩
        rw [HLEN.out]
        have t6 : ((r : Int) == (r : Int)) = true := by simp
        go_wp2_with fail
        refine (qwake_no HQ11.out HL8.out _ 1 (.inl HNO.out)).mono ?_
        rintro e w12 ⟨rfl, hf12⟩
        have HF12 := hid (HF11.out.trans' hf12); have HQ12 := hid (HQ11.out.fr hf12)
        clear hf12 HF11 HQ11
        go_wp2_with fail
        refine (qkill_no HQ12.out HL8.out _ HNO.out).mono ?_
        rintro e w13 ⟨rfl, hf13⟩
        have HF13 := hid (HF12.out.trans' hf13)
        clear hf13 HF12 HQ12
        go_wp2_with fail
        go_ret
        exact ⟨rfl, HF13.out⟩
      · have t3 : decide (0 < y) = false := by simp; omega
        go_wp2_with fail
        obtain ⟨k7, hk7, hkz⟩ := place_of HFST.out.2.1 HFST.out.1.1
        have hkl := (List.getElem?_eq_some_iff.1 hkz).1
        have hcl := qtake_yes HQ10.out HL7.out y z HFST.out.1 HFST.out.2.1 (by rw [HZ3.out]; omega) (by rw [HZ3.out]; omega) k7 hk7 hkl
        rw [HZ1.out, HZ3.out] at hcl
        have hno := not_there HFST.out.2.1 k7 z hkz
        have hlen : (L7.eraseIdx k7).length = r := by rw [List.length_eraseIdx, if_pos hkl]; have := HFST.out.2.2.2.1; omega
        obtain ⟨L8, hL8⟩ : ∃ L8, L7.eraseIdx k7 = L8 := ⟨_, rfl⟩
        rw [hL8] at hcl hno hlen
        rw [HZ1.out] at hno
        have HNO := hid hno; have HLEN := hid hlen
        have HL8 : Hid (L8.length ≤ 1000000) := hid (by omega)
        clear hno hlen hL8 hk7 hkz hkl
        refine hcl.mono ?_
        clear hcl
        rintro e w11 ⟨rfl, lv8, hq11, hf11, hb11⟩
        have hF := HQ10.out.step2 HB.out HF10.out hf11
        have hfa := (Fr.refl (fun _ => False) w11).alloc (.cells #[.int .i64 ((s : Int) + 1), .int .i64 z.own, .int .i64 y] 31)
        have hxr := heap_alloc_new w11 (.cells #[.int .i64 ((s : Int) + 1), .int .i64 z.own, .int .i64 y] 31)
        have x0 : (w11.alloc (.cells #[.int .i64 ((s : Int) + 1), .int .i64 z.own, .int .i64 y] 31)).cell? ⟨w11.heap.size, 0, none⟩ = some (.int .i64 ((s : Int) + 1)) := by rw [cell_of_row _ _ _ _ _ _ hxr]; rfl
        have HF11 := hid (hF.trans' hfa); have HQ11 := hid (hq11.fr hfa)
        have t5 : ((s : Int) + 1 == (s : Int) + 1) = true := by simp
        clear hq11 hf11 hb11 hF hfa hxr HF10 HQ10
        go_wp2_with fail
        refine (qlen_any HQ11.out).mono ?_
        rintro e w12 ⟨rfl, rfl⟩
        rw [HLEN.out]
        have t6 : ((r : Int) == (r : Int)) = true := by simp
        go_wp2_with fail
        refine (qwake_no HQ11.out HL8.out _ 1 (.inl HNO.out)).mono ?_
        rintro e w12 ⟨rfl, hf12⟩
        have HF12 := hid (HF11.out.trans' hf12); have HQ12 := hid (HQ11.out.fr hf12)
        clear hf12 HF11 HQ11
        go_wp2_with fail
        refine (qkill_no HQ12.out HL8.out _ HNO.out).mono ?_
        rintro e w13 ⟨rfl, hf13⟩
        have HF13 := hid (HF12.out.trans' hf13)
        clear hf13 HF12 HQ12
        go_wp2_with fail
        go_ret
        exact ⟨rfl, HF13.out⟩
end Go.Proofs.YtdcfidefkoamnaaDoor
