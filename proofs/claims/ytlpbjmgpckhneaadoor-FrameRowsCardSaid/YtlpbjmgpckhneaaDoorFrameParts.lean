/- The statement FrameParts, walked. -/
import Derived.Test.YtlpbjmgpckhneaaDoorFrameSays
import Derived.Test.YtlpbjmgpckhneaaDoorNumber
namespace Go.Proofs.YtlpbjmgpckhneaaDoor
open Go.RowKit

theorem Bss.one {w : World} {g t : Nat} {fz : Nat × Nat} {u : Value} {r : List UInt8} (h : w.heap[g]? = some (.cells #[u] t fz)) (hu : Bs (fun _ => True) w u r) : Bss (fun _ => True) w (.slice (some ⟨g, 0, none⟩) 1 1) [r] := by
  refine ⟨some ⟨g, 0, none⟩, 1, rfl, Nat.le_refl _, by simp [maxLen], fun k hk => ?_⟩
  simp only [List.length_cons, List.length_nil] at hk
  obtain rfl : k = 0 := by omega
  exact ⟨g, 0, u, rfl, trivial, by rw [cell_of_row _ _ _ _ _ _ h]; rfl, hu⟩
theorem and255 (n : Nat) (hn : n < 4294967296) : bits BinOp.and IntKind.u32 (n : Int) 255 = ((n % 256 : Nat) : Int) := by
  have h := u32_and_nat n 255 hn (by omega)
  rw [show ((255 : Nat) : Int) = 255 by rfl] at h
  rw [h, show (255 : Nat) = 2 ^ 8 - 1 by rfl, Nat.and_two_pow_sub_one_eq_mod]
theorem recsB_one (r : List UInt8) : recsB [r] = recB r := by simp [recsB]
theorem read_short (n : Nat) (hn : n < 4294967296) : (readB (le4 n ++ [1, 2, 3])).2.2 = if 4194304 < n then 104 else 101 := by
  have h1 : n4 (le4 n ++ [1, 2, 3]) = n := by
    simp [n4, le4]
    omega
  have h2 : (le4 n ++ [1, 2, 3]).length = 7 := rfl
  unfold readB
  rw [h1, h2, if_neg (by omega)]
  split
  · rfl
  · rw [if_pos (by omega)]

set_option maxHeartbeats 800000 in
theorem frameParts_any (pa : Nat → Addr) (vs : Value) (ls : List (List UInt8)) (n : Nat) (hn : n < 4294967296) (w : World) (hS : Bss (fun _ => True) w vs ls) (hE : Sent17 w pa) :
    Calls Tryd.prog 5 #[vs, .int .u32 n] w fun e w' => e = .returned (.bool true) ∧ Fr (fun _ => False) w w' := by
  have hS0 := hS
  obtain ⟨sa, sc, rfl, hsc, hsm, hk⟩ := hS
  have hm2 : ls.length ≤ 9223372036854775807 := Nat.le_trans hsc hsm
  have HS := hid hS0; have HE := hid hE; have HK := hid hk
  clear hS0 hE hk hsc hsm
  by_cases h10 : 10 < ls.length
  · have h10' : decide ((10 : Int) < ls.length) = true := by simp; omega
    go_enter Tryd.func5, Tryd.ntmps5
    go_wp2_with fail
    refine (first_any _).mono ?_
    rintro e w1 ⟨rfl, hf⟩
    go_wp2_with fail
    go_ret
    exact ⟨rfl, hf⟩
  · have h10' : decide ((10 : Int) < ls.length) = false := by simp; omega
    go_enter Tryd.func5, Tryd.ntmps5
    go_wp2_with fail
    refine (first_any _).mono ?_
    rintro e w1 ⟨rfl, hf⟩
    have HF := hid hf
    clear hf
    go_wp2_with fail
    go_loopw [6, 7, 8] (fun v z i wr => ∃ k : Nat, k ≤ ls.length ∧ i = .int .i64 k ∧ z = .int .i64 (recsB (ls.take k)).length ∧ OB w.heap.size wr v (recsB (ls.take k)) ∧ Hid (∀ j, j < k → (ls.getD j []).length ≤ 200) ∧ Fr (fun _ => False) w wr) (fun _ _ i _ => ls.length - (intOf i).toNat)
    case atStart => exact ⟨0, by omega, rfl, rfl, World.ownsRow_nil _ _ _ _, hid (fun j hj => by omega), HF.out⟩
    case round =>
      clear HF
      obtain ⟨k, hkl, rfl, rfl, hO, hall, hf⟩ := hrel
      have HO := hid hO; have HF := hid hf
      clear hO hf
      by_cases hlt : k < ls.length
      · obtain ⟨b, o, u, rfl, -, hcw, hu⟩ := HK.out k hlt
        have hcr := HF.out.cell hcw not_false
        have hu2 := hu.frame HF.out (fun _ _ => not_false)
        obtain ⟨ua, uc, rfl, huc, hum, -⟩ := hu
        have hmu : (ls.getD k []).length ≤ 9223372036854775807 := Nat.le_trans huc hum
        have ht := recsB_take ls k hlt
        have hpre := recsB_bound (ls.take k) 200 (fun r hr => by
          obtain ⟨j, hj, rfl⟩ := mem_getD (d := []) hr
          have hj2 : j < k := by simp at hj; omega
          have : (ls.take k).getD j [] = ls.getD j [] := by simp [List.getD, List.getElem?_take, hj2]
          rw [this]
          exact hall.out j hj2)
        have htk : (ls.take k).length ≤ 10 := by simp; omega
        clear huc hum
        have HCW := hid hcw
        clear hcw
        generalize hgr : ls.getD k [] = r at *
        have HGR := hid hgr
        clear hgr
        by_cases h2 : 200 < r.length
        · have h2' : decide ((200 : Int) < r.length) = true := by simp; omega
          have HT := hid ht; have HP := hid hpre
          clear ht hpre
          go_wp2_with fail
          go_ret
          exact ⟨rfl, HF.out⟩
        · have h2' : decide ((200 : Int) < r.length) = false := by simp; omega
          have hrb := recB_len r
          have hq : (recsB (ls.take k) ++ recsB [r]).length ≤ 1073741824 := by rw [recsB_one, List.length_append, hrb]; omega
          have hz : (recsB (ls.take (k + 1))).length = (recsB (ls.take k)).length + r.length + 8 := by rw [ht, List.length_append, hrb]; omega
          have hzb : (recsB (ls.take k)).length ≤ 2080 := by omega
          have hU := ((Fr.refl (fun _ => False) wr).alloc (.cells #[.slice ua r.length uc] 22))
          have hone := Bss.one (heap_alloc_new wr (.cells #[.slice ua r.length uc] 22)) (hu2.frame hU (fun _ _ => not_false))
          have hOB := OB.bs (World.ownsRow.alloc HO.out (.cells #[.slice ua r.length uc] 22))
          generalize hL : (recsB (ls.take k)).length = L at *
          have HT := hid ht; have HP := hid hpre; have HQ := hid hq; have HZ := hid hz; have HRB := hid hrb; have HU := hid hU; have HONE := hid hone; have HOB := hid hOB; have HL := hid hL
          clear ht hpre hq hz hrb hU hone hOB hu2 hL
          go_wp2_with fail
          refine (put_any _ _ _ _ (recsB (ls.take k)) [r] _ (by have := HOB.out; exact this) HONE.out (by have := HQ.out; simpa [HL.out] using this)).mono ?_
          rintro e w2 ⟨v2, rfl, ho2, hf2⟩
          rw [recsB_one, ← HT.out] at ho2
          have HO2 := hid (own_base ho2 (by have := HF.out.size; have := HU.out.size; omega : w.heap.size ≤ _)); have HF2 := hid ((HF.out.trans' HU.out).trans' hf2)
          have hcr2 := HF2.out.cell HCW.out not_false
          clear ho2 hf2 hcr
          go_wp2_with fail
          go_roundw
          case rel =>
            refine ⟨k + 1, by omega, by go_num, by rw [HZ.out]; go_num, HO2.out, hid (fun j hj => ?_), HF2.out⟩
            by_cases hjk : j = k
            · subst hjk; rw [HGR.out]; omega
            · exact hall.out j (by omega)
          case measure => simp [intOf]; omega
      · obtain rfl : k = ls.length := by omega
        rw [List.take_length] at HO ⊢
        have hpre := recsB_bound ls 200 (fun r hr => by
          obtain ⟨j, hj, rfl⟩ := mem_getD (d := []) hr
          exact hall.out j hj)
        have hrb : ([] ++ recsB ls).length ≤ 1073741824 := by rw [List.nil_append]; omega
        have hnil : Bs (fun _ => True) wr (.slice none 0 0) [] := ⟨none, 0, rfl, Nat.le_refl _, Nat.zero_le _, fun k hk => by simp at hk⟩
        have HP := hid hpre; have HRB := hid hrb; have HNIL := hid hnil
        have hzb : (recsB ls).length ≤ 2080 := by omega
        generalize hL : (recsB ls).length = L at *
        have HL := hid hL
        clear hpre hrb hnil hL
        go_wp2_with fail
        refine (put_any _ _ _ _ [] ls wr HNIL.out (HS.out.frame HF.out (fun _ _ => not_false) (fun _ _ _ h => h.frame HF.out (fun _ _ => not_false))) HRB.out).mono ?_
        rintro e w2 ⟨v2, rfl, ho2, hf2⟩
        rw [List.nil_append] at ho2
        have HO2 := hid ho2; have HF2 := hid (HF.out.trans' hf2); have HO12 := hid (hf2.own HO.out (fun _ _ => not_false))
        have hlv : ∃ a c, v2 = .slice a (recsB ls).length c := by obtain ⟨a, c, e, _⟩ := own_len ho2; exact ⟨a, c, e⟩
        obtain ⟨va, vc, rfl⟩ := hlv
        clear ho2 hf2
        have hrd := read_short n hn
        have hle := le4_bV n hn
        have hU := (Fr.refl (fun _ => False) w2).alloc (.cells #[.int .u8 ((n : Int) % 256), .int .u8 ((n : Int) / 256 % 256), .int .u8 ((n : Int) / 65536 % 256), .int .u8 ((n : Int) / 16777216), .int .u8 1, .int .u8 2, .int .u8 3] 5)
        have hrow := Bs.row (l := le4 n ++ [1, 2, 3]) (heap_alloc_new w2 (.cells #[.int .u8 ((n : Int) % 256), .int .u8 ((n : Int) / 256 % 256), .int .u8 ((n : Int) / 65536 % 256), .int .u8 ((n : Int) / 16777216), .int .u8 1, .int .u8 2, .int .u8 3] 5)) (by
          have : bV (le4 n ++ [1, 2, 3]) = bV (le4 n) ++ [.int .u8 1, .int .u8 2, .int .u8 3] := by simp [bV]
          rw [this, hle]
          rfl) (by simp [maxLen])
        have HRD := hid hrd; have HU := hid hU; have HROW := hid hrow
        clear hrd hle hU hrow
        go_wp2_with fail
        refine (read_any _ pa _ (le4 n ++ [1, 2, 3]) _ HROW.out (by simp) (HE.out.s.frame (HF2.out.trans' HU.out))).mono ?_
        rintro e w3 ⟨v3, rfl, -, hf3⟩
        have HF3 := hid (HU.out.trans' hf3)
        have hno := readB_no (le4 n ++ [1, 2, 3])
        rw [HRD.out] at hno
        rw [HRD.out]
        have HNO := hid hno
        clear hf3 hno
        have hql : (((recsB ls).length : Int) == (L : Int)) = true := by rw [HL.out]; simp
        by_cases hbig : 4194304 < n
        · rw [if_pos hbig] at HNO ⊢
          have hb : (4194304 : Int) < n := by omega
          go_wp2_with fail
          refine (sameBytes_any _ _ _ _ _ _ w3 (OB.bs (HF3.out.own HO12.out (fun _ _ => not_false))) (OB.bs (HF3.out.own HO2.out (fun _ _ => not_false)))).mono ?_
          rintro e w4 ⟨rfl, n4, hf4⟩
          rw [show decide (recsB ls = recsB ls) = true by simp]
          have HF4 := hid (HF3.out.trans' (hf4 ▸ (Fr.refl (fun _ => False) w3).drewN n4))
          clear hf4
          go_wp2_with fail
          refine (is_num w4 pa (HE.out.frame (HF2.out.trans' HF4.out)) _ HNO.out _).mono ?_
          rintro e w5 ⟨rfl, hf5⟩
          rw [show decide (((104 : Nat) : Int) = 104) = true by decide]
          have HF5 := hid ((HF2.out.trans' HF4.out).trans' hf5)
          clear hf5
          have ha := and255 n hn
          have h255 : n % 256 < 256 := Nat.mod_lt _ (by decide)
          generalize n % 256 = q at *
          go_wp2_with fail
          refine (number_any (q : Int) 256 w5 (by omega) (by omega) (by omega) (by omega)).mono ?_
          rintro e w6 ⟨rfl, rfl⟩
          have hpos : 0 ≤ (q : Int) % 256 := by omega
          go_wp2_with fail
          go_ret
          exact ⟨rfl, HF5.out⟩
        · rw [if_neg hbig] at HNO ⊢
          have hb : ¬ (4194304 : Int) < n := by omega
          go_wp2_with fail
          refine (sameBytes_any _ _ _ _ _ _ w3 (OB.bs (HF3.out.own HO12.out (fun _ _ => not_false))) (OB.bs (HF3.out.own HO2.out (fun _ _ => not_false)))).mono ?_
          rintro e w4 ⟨rfl, n4, hf4⟩
          rw [show decide (recsB ls = recsB ls) = true by simp]
          have HF4 := hid (HF3.out.trans' (hf4 ▸ (Fr.refl (fun _ => False) w3).drewN n4))
          clear hf4
          go_wp2_with fail
          refine (is_num w4 pa (HE.out.frame (HF2.out.trans' HF4.out)) _ HNO.out _).mono ?_
          rintro e w5 ⟨rfl, hf5⟩
          rw [show decide (((101 : Nat) : Int) = 101) = true by decide]
          have HF5 := hid ((HF2.out.trans' HF4.out).trans' hf5)
          clear hf5
          have ha := and255 n hn
          have h255 : n % 256 < 256 := Nat.mod_lt _ (by decide)
          generalize n % 256 = q at *
          go_wp2_with fail
          refine (number_any (q : Int) 256 w5 (by omega) (by omega) (by omega) (by omega)).mono ?_
          rintro e w6 ⟨rfl, rfl⟩
          have hpos : 0 ≤ (q : Int) % 256 := by omega
          go_wp2_with fail
          go_ret
          exact ⟨rfl, HF5.out⟩
end Go.Proofs.YtlpbjmgpckhneaaDoor
