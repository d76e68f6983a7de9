/- The statement FrameSays, walked. -/
import Derived.Test.YtlpbjmgpckhneaaDoorFrameE
import Derived.Test.YtlpbjmgpckhneaaDoorSameBytes
namespace Go.Proofs.YtlpbjmgpckhneaaDoor
open Go.RowKit

theorem sum_first : sumB [49, 50, 51, 52, 53, 54, 55, 56, 57] = 3421780262#32 := by decide +kernel
theorem Bs.row {w : World} {g t : Nat} {fz : Nat × Nat} {cs : Array Value} {l : List UInt8} (h : w.heap[g]? = some (.cells cs t fz)) (hc : cs = (bV l).toArray) (hl : l.length ≤ maxLen) : Bs (fun k => k = g) w (.slice (some ⟨g, 0, none⟩) l.length l.length) l := by
  refine ⟨some ⟨g, 0, none⟩, l.length, rfl, Nat.le_refl _, hl, fun k hk => ⟨g, 0, rfl, rfl, ?_⟩⟩
  rw [Nat.zero_add, cell_of_row _ _ _ _ _ _ h, hc]
  simp [bV, List.getD, hk]
theorem first_any (w : World) : Calls Tryd.prog 7 #[] w fun e w' => e = .returned (.bool true) ∧ Fr (fun _ => False) w w' := by
  have hcv := conv_const (P := Tryd.prog) 22 5 Tryd.underlying22 Tryd.underlying5
  have hb := Bs.row (l := [49, 50, 51, 52, 53, 54, 55, 56, 57]) (heap_alloc_new w (.cells #[.int .u8 49, .int .u8 50, .int .u8 51, .int .u8 52, .int .u8 53, .int .u8 54, .int .u8 55, .int .u8 56, .int .u8 57] 5 (9, 10))) rfl (by decide)
  have HB := hid hb
  clear hb
  go_enter Tryd.func7, Tryd.ntmps7
  go_wp2_with fail
  refine (sum_any _ _ _ _ HB.out).mono ?_
  rintro e w1 ⟨rfl, hf⟩
  rw [sum_first]
  have HF := hid (((Fr.refl (fun _ => False) w).alloc _).trans' hf)
  clear hf
  go_wp2_with fail
  go_ret
  exact ⟨rfl, HF.out⟩

theorem recsB_bound : ∀ (ls : List (List UInt8)) (N : Nat), (∀ r ∈ ls, r.length ≤ N) → (recsB ls).length ≤ (N + 8) * ls.length
  | [], _, _ => by simp [recsB]
  | r :: ls, N, h => by
    have h1 := recsB_bound ls N (fun x hx => h x (List.mem_cons_of_mem _ hx))
    have h2 := h r (List.mem_cons_self ..)
    have h3 := recB_len r
    have e : recsB (r :: ls) = recB r ++ recsB ls := rfl
    rw [e, List.length_append, List.length_cons, Nat.mul_succ]
    omega
theorem mem_getD {α : Type} {l : List α} {d x : α} (h : x ∈ l) : ∃ k, k < l.length ∧ l.getD k d = x := by
  obtain ⟨k, hk, e⟩ := List.getElem_of_mem h
  exact ⟨k, hk, by simp [List.getD, hk, e]⟩
theorem readB_no (l : List UInt8) : ErrNo (readB l).2.2 := by
  have h := openB_no ((l.take (n4 l + 8)).drop 4)
  unfold readB
  repeat' split
  all_goals first | exact h | simp [ErrNo]

set_option maxHeartbeats 800000 in
theorem frameSays_any (pa : Nat → Addr) (v vs : Value) (l : List UInt8) (ls : List (List UInt8)) (w : World) (hB : Bs (fun _ => True) w v l) (hS : Bss (fun _ => True) w vs ls) (hE : Sent17 w pa) :
    Calls Tryd.prog 4 #[v, vs] w fun e w' => e = .returned (.bool true) ∧ Fr (fun _ => False) w w' := by
  have hB0 := hB
  have hS0 := hS
  obtain ⟨a, c, rfl, hlc, hcm, _⟩ := hB
  obtain ⟨sa, sc, rfl, hsc, hsm, hk⟩ := hS
  have hm1 : l.length ≤ 9223372036854775807 := Nat.le_trans hlc hcm
  have hm2 : ls.length ≤ 9223372036854775807 := Nat.le_trans hsc hsm
  have HB := hid hB0; have HS := hid hS0; have HE := hid hE; have HK := hid hk
  clear hB0 hS0 hE hk hlc hcm hsc hsm
  by_cases h5 : 500 < l.length
  · have h5' : decide ((500 : Int) < l.length) = true := by simp; omega
    go_enter Tryd.func4, Tryd.ntmps4
    go_wp2_with fail
    refine (first_any _).mono ?_
    rintro e w1 ⟨rfl, hf⟩
    go_wp2_with fail
    go_ret
    exact ⟨rfl, hf⟩
  · have h5' : decide ((500 : Int) < l.length) = false := by simp; omega
    by_cases h10 : 10 < ls.length
    · have h10' : decide ((10 : Int) < ls.length) = true := by simp; omega
      go_enter Tryd.func4, Tryd.ntmps4
      go_wp2_with fail
      refine (first_any _).mono ?_
      rintro e w1 ⟨rfl, hf⟩
      go_wp2_with fail
      go_ret
      exact ⟨rfl, hf⟩
    · have h10' : decide ((10 : Int) < ls.length) = false := by simp; omega
      go_enter Tryd.func4, Tryd.ntmps4
      go_wp2_with fail
      refine (first_any _).mono ?_
      rintro e w1 ⟨rfl, hf⟩
      have HF := hid hf
      clear hf
      go_wp2_with fail
      go_loop [6] (fun i => ∃ k : Nat, k ≤ ls.length ∧ i = .int .i64 k ∧ Hid (∀ j, j < k → (ls.getD j []).length ≤ 200)) (fun i => ls.length - (intOf i).toNat)
      case atStart => exact ⟨0, by omega, rfl, hid (fun j hj => by omega)⟩
      case round =>
        obtain ⟨k, hkl, rfl, hall⟩ := hrel
        by_cases hlt : k < ls.length
        · obtain ⟨b, o, u, rfl, -, hcw, hu⟩ := HK.out k hlt
          have hcr := HF.out.cell hcw not_false
          obtain ⟨ua, uc, rfl, huc, hum, -⟩ := hu
          have hmu : (ls.getD k []).length ≤ 9223372036854775807 := Nat.le_trans huc hum
          clear hcw huc hum
          generalize hr : (ls.getD k []).length = m at *
          have HR := hid hr
          clear hr
          by_cases h2 : 200 < m
          · have h2' : decide ((200 : Int) < m) = true := by simp; omega
            go_wp2_with fail
            go_ret
            exact ⟨rfl, HF.out⟩
          · have h2' : decide ((200 : Int) < m) = false := by simp; omega
            go_wp2_with fail
            go_round
            case rel =>
              refine ⟨k + 1, by omega, by go_num, hid (fun j hj => ?_)⟩
              by_cases hjk : j = k
              · subst hjk; have := HR.out; omega
              · exact hall.out j (by omega)
            case measure => simp [intOf]; omega
        · obtain rfl : k = ls.length := by omega
          have hrb : (l ++ recsB ls).length ≤ 1073741824 := by
            have := recsB_bound ls 200 (fun r hr => by obtain ⟨j, hj, rfl⟩ := mem_getD (d := []) hr; exact hall.out j hj)
            rw [List.length_append]
            omega
          have hl : l.length ≤ 1073741824 := by omega
          have HRB := hid hrb; have HL := hid hl
          clear hrb hl hkl hlt h5 h10 h5' h10' hm1 hm2
          go_wp2_with fail
          refine (open_any _ pa _ l w1 (HB.out.frame HF.out (fun _ _ => not_false)) HL.out (HE.out.s.frame HF.out)).mono ?_
          rintro e w2 ⟨x, rfl, hx, hf2⟩
          have HX := hid hx; have HF2 := hid (HF.out.trans' hf2)
          clear hx hf2
          go_wp2_with fail
          refine (ropen_any _ _ l w2 (HB.out.frame HF2.out (fun _ _ => not_false)) HL.out).mono ?_
          rintro e w3 ⟨y, rfl, hy, hf3⟩
          have HX3 := hid (hf3.own HX.out (fun _ _ => not_false)); have HY := hid hy; have HF3 := hid (HF2.out.trans' hf3)
          clear hy hf3 HX
          go_wp2_with fail
          refine (read_any _ pa _ l w3 (HB.out.frame HF3.out (fun _ _ => not_false)) HL.out (HE.out.s.frame HF3.out)).mono ?_
          rintro e w4 ⟨r, rfl, hr, hf4⟩
          have HX4 := hid (hf4.own HX3.out (fun _ _ => not_false)); have HY4 := hid (HY.out.frame hf4 (fun _ _ => not_false)); have HR := hid hr; have HF4 := hid (HF3.out.trans' hf4)
          clear hr hf4 HX3 HY
          go_wp2_with fail
          refine (rread_any _ _ l w4 (HB.out.frame HF4.out (fun _ _ => not_false)) HL.out).mono ?_
          rintro e w5 ⟨s, rfl, hs, hf5⟩
          have HX5 := hid (hf5.own HX4.out (fun _ _ => not_false)); have HY5 := hid (HY4.out.frame hf5 (fun _ _ => not_false)); have HR5 := hid (hf5.own HR.out (fun _ _ => not_false)); have HS5 := hid hs; have HF5 := hid (HF4.out.trans' hf5)
          clear hs hf5 HX4 HY4 HR
          go_wp2_with fail
          refine (sum_any _ _ l w5 (HB.out.frame HF5.out (fun _ _ => not_false))).mono ?_
          rintro e w6 ⟨rfl, hf6⟩
          have HF6 := hid hf6
          clear hf6
          go_wp2_with fail
          refine (rsum_any _ _ l w6 (HB.out.frame (HF5.out.trans' HF6.out) (fun _ _ => not_false))).mono ?_
          rintro e w7 ⟨rfl, rfl⟩
          go_wp2_with fail
          refine (seal_any _ _ l w6 (HB.out.frame (HF5.out.trans' HF6.out) (fun _ _ => not_false)) HL.out).mono ?_
          rintro e w8 ⟨s1, rfl, ho1, hf8⟩
          have HO1 := hid ho1; have HF8 := hid ((HF5.out.trans' HF6.out).trans' hf8); have HG8 := hid (HF6.out.trans' hf8)
          clear ho1 hf8
          go_wp2_with fail
          refine (rseal_any _ _ l w8 (HB.out.frame HF8.out (fun _ _ => not_false)) HL.out).mono ?_
          rintro e w9 ⟨s2, rfl, ho2, hf9⟩
          have HO2 := hid ho2; have HO19 := hid (hf9.own HO1.out (fun _ _ => not_false)); have HG9 := hid (HG8.out.trans' hf9)
          clear ho2 hf9
          go_wp2_with fail
          refine (sameBytes_any _ _ _ _ _ _ w9 (OB.bs HO19.out) (OB.bs HO2.out)).mono ?_
          rintro e w10 ⟨rfl, n1, hf10⟩
          rw [show decide (sealB l = sealB l) = true by simp]
          have HG10 := hid (HG9.out.trans' (hf10 ▸ (Fr.refl (fun _ => False) w9).drewN n1))
          clear hf10 HO1 HO2 HO19
          go_wp2_with fail
          refine (sameBytes_any _ _ _ _ _ _ w10 ((OB.bs HX5.out).frame HG10.out (fun _ _ => not_false)) (HY5.out.frame HG10.out (fun _ _ => not_false))).mono ?_
          rintro e w11 ⟨rfl, n2, hf11⟩
          rw [show decide ((openB l).1 = (openB l).1) = true by simp]
          have HG11 := hid (HG10.out.trans' (hf11 ▸ (Fr.refl (fun _ => False) w10).drewN n2))
          clear hf11
          go_wp2_with fail
          refine (is_num w11 pa (HE.out.frame (HF5.out.trans' HG11.out)) _ (openB_no l) _).mono ?_
          rintro e w12 ⟨rfl, hf12⟩
          rw [show decide (((openB l).2 : Int) = ((openB l).2 : Int)) = true by simp]
          have HG12 := hid (HG11.out.trans' hf12)
          clear hf12
          go_wp2_with fail
          refine (sameBytes_any _ _ _ _ _ _ w12 ((OB.bs HR5.out).frame HG12.out (fun _ _ => not_false)) (HS5.out.frame HG12.out (fun _ _ => not_false))).mono ?_
          rintro e w13 ⟨rfl, n3, hf13⟩
          rw [show decide ((readB l).1 = (readB l).1) = true by simp]
          have HG13 := hid (HG12.out.trans' (hf13 ▸ (Fr.refl (fun _ => False) w12).drewN n3))
          clear hf13
          go_wp2_with fail
          refine (is_num w13 pa (HE.out.frame (HF5.out.trans' HG13.out)) _ (readB_no l) _).mono ?_
          rintro e w14 ⟨rfl, hf14⟩
          rw [show decide (((readB l).2.2 : Int) = ((readB l).2.2 : Int)) = true by simp]
          have HF14 := hid (HF5.out.trans' (HG13.out.trans' hf14))
          clear hf14
          go_wp2_with fail
          refine (put_any _ _ _ _ l ls w14 (HB.out.frame HF14.out (fun _ _ => not_false)) (HS.out.frame HF14.out (fun _ _ => not_false) (fun _ _ _ h => h.frame HF14.out (fun _ _ => not_false))) HRB.out).mono ?_
          rintro e w15 ⟨p1, rfl, ho1, hf15⟩
          have HO1 := hid ho1; have HF15 := hid (HF14.out.trans' hf15)
          clear ho1 hf15
          go_wp2_with fail
          refine (rput_any _ _ _ _ l ls w15 (HB.out.frame HF15.out (fun _ _ => not_false)) (HS.out.frame HF15.out (fun _ _ => not_false) (fun _ _ _ h => h.frame HF15.out (fun _ _ => not_false))) HRB.out).mono ?_
          rintro e w16 ⟨p2, rfl, ho2, hf16⟩
          have HO2 := hid ho2; have HO16 := hid (hf16.own HO1.out (fun _ _ => not_false)); have HF16 := hid (HF15.out.trans' hf16)
          clear ho2 hf16
          go_wp2_with fail
          refine (sameBytes_any _ _ _ _ _ _ w16 (OB.bs HO16.out) (OB.bs HO2.out)).mono ?_
          rintro e w17 ⟨rfl, n4, hf17⟩
          rw [show decide (l ++ recsB ls = l ++ recsB ls) = true by simp]
          have HF17 := hid (HF16.out.trans' (hf17 ▸ (Fr.refl (fun _ => False) w16).drewN n4))
          clear hf17
          go_wp2_with fail
          go_ret
          exact ⟨rfl, HF17.out⟩
end Go.Proofs.YtlpbjmgpckhneaaDoor
