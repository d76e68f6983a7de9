/- inglenookref1.Size: it ends, and is no more than all that the value has. -/
import Derived.Test.YtebanmigaikhhaaValSize
namespace Go.Proofs.Ytebanmigaikhhaa
open Go.RowKit

set_option maxHeartbeats 1600000 in
theorem rsize_any : ∀ (N : Nat) (x : V), x.size ≤ N → x.size ≤ 1099511627776 → ∀ (D : Nat → Prop) (w : World) (u : Array Value), VIn D w x u →
    Calls Try.prog 48 #[.agg u] w fun e w' => ∃ n : Nat, e = .returned (.int .i64 n) ∧ n ≤ x.size ∧ Fr (fun _ => False) w w' := by
  intro N
  induction N with
  | zero =>
    intro x h
    rw [V.size_eq] at h
    omega
  | succ N ih =>
    intro x hN hM D w u h
    have hs := V.size_eq x
    obtain ⟨v, rfl, a, cap, us, rfl, hc, hm, hn, hb, hi⟩ := h.open
    have hlm : x.l.length ≤ 9223372036854775807 := Nat.le_trans hc hm
    have hsm : x.s.size ≤ 1099511627776 := by omega
    generalize x.k = kk at *
    generalize x.n = nn at *
    generalize x.s = ss at *
    generalize x.l = l at *
    have hF : Fr (fun _ => False) w (w.alloc (.cells #[.int .i64 kk, .int .i64 nn, .string ss, .slice a l.length cap] 30)) := (Fr.refl _ _).alloc _
    have hb1 : (w.alloc (.cells #[.int .i64 kk, .int .i64 nn, .string ss, .slice a l.length cap] 30)).heap[w.heap.size]? = some (.cells #[.int .i64 kk, .int .i64 nn, .string ss, .slice a l.length cap] 30) := heap_alloc_new w _
    have D0 := cell_of_row _ _ 3 _ _ _ hb1
    simp only [List.getElem?_toArray, List.getElem?_cons_zero, List.getElem?_cons_succ] at D0
    have HB := hid hb; have HI := hid hi; have HS := hid hs; have HM := hid hM; have HN := hid hN; have HF := hid hF; have HD := hid D0
    clear hb hi hs hM hN h hn hF hb1 D0
    by_cases h2 : kk = 2
    · subst h2
      go_enter Try.func48, Try.ntmps48
      go_wp2
      go_ret
      exact ⟨1 + ss.size, rfl, by have := HS.out; omega, HF.out⟩
    · have q2 : (kk == 2) = false := by simpa using h2
      by_cases h4 : kk = 4
      · subst h4
        clear h2 q2
        go_enter Try.func48, Try.ntmps48
        go_wp2
        generalize w.alloc (.cells #[.int .i64 4, .int .i64 nn, .string ss, .slice a l.length cap] 30) = W at *
        go_loopw [3, 4] (fun n i wr => ∃ k m : Nat, k ≤ l.length ∧ i = .int .i64 k ∧ n = .int .i64 m ∧ m ≤ 1 + sizeL (l.take k) ∧ Fr (fun _ => False) W wr) (fun _ i _ => l.length - (intOf i).toNat)
        case atStart => exact ⟨0, 1, Nat.zero_le _, rfl, rfl, by omega, Fr.refl _ _⟩
        case round =>
          obtain ⟨k, m, hk, rfl, rfl, hmk, hf⟩ := hrel
          have d3 := hf.cell HD.out not_false
          by_cases hlt : k < l.length
          · obtain ⟨b, o, y, a', c', rfl, -, hy, hv, e0, e1, e2, e3⟩ := VL.elem HB.out HI.out k hlt
            have hf0 := HF.out.trans' hf
            replace e0 := hf0.cell e0 not_false
            replace e1 := hf0.cell e1 not_false
            replace e2 := hf0.cell e2 not_false
            replace e3 := hf0.cell e3 not_false
            have hv2 := hv.frame hf0 (fun _ _ => not_false)
            have t1 := sizeL_take l k y hy
            have t2 := sizeL_mem hy
            have t3 := sizeL_take_le l (k + 1)
            have hy1 : y.size ≤ N := by have := HS.out; have := HN.out; omega
            have hy2 : y.size ≤ 1099511627776 := by have := HS.out; have := HM.out; omega
            have hq : m + y.size ≤ 1099511627776 := by have := HS.out; have := HM.out; omega
            have hc := ih y hy1 hy2 D
            have T1 := hid t1; have HFr := hid hf; have HV := hid hv2; have HC := hid hc; have HMK := hid hmk
            clear hv t1 t2 t3 hf hf0 hv2 hc hmk hy hy1 hy2
            go_wp2_with fail
            refine (HC.out _ _ HV.out).mono ?_
            rintro e w2 ⟨n, rfl, hny, hf2⟩
            have HE := hid (HFr.out.trans' hf2)
            clear hf2
            go_wp2
            go_roundw
            case rel => exact ⟨k + 1, m + n, by omega, by go_num, by go_num, by rw [T1.out]; have := HMK.out; omega, HE.out⟩
            case measure => simp [intOf]; omega
          · go_wp2
            go_ret
            exact ⟨m, rfl, by have := HS.out; have := sizeL_take_le l k; omega, HF.out.trans' hf⟩
      · have q4 : (kk == 4) = false := by simpa using h4
        go_enter Try.func48, Try.ntmps48
        go_wp2
        go_ret
        exact ⟨1, rfl, by have := HS.out; omega, HF.out⟩
end Go.Proofs.Ytebanmigaikhhaa
