/- val.Deep: just how deep a value is. -/
import Derived.Test.YtebanmigaikhhaaValSize
namespace Go.Proofs.Ytebanmigaikhhaa
open Go.RowKit

mutual
def V.deep : V → Nat
  | .mk _ _ _ l => 1 + deepL l
def deepL : List V → Nat
  | [] => 0
  | x :: r => max (V.deep x) (deepL r)
end
theorem V.deep_eq (x : V) : x.deep = 1 + deepL x.l := by cases x; simp [V.deep, V.l]
theorem deepL_take : ∀ (l : List V) (k : Nat) (x : V), l[k]? = some x → deepL (l.take (k + 1)) = max (deepL (l.take k)) x.deep
  | [], k, x, h => by simp at h
  | y :: r, 0, x, h => by
    simp at h
    subst h
    simp [deepL]
  | y :: r, k + 1, x, h => by
    have := deepL_take r k x (by simpa using h)
    simp only [List.take_succ_cons, deepL, this]
    omega
mutual
theorem V.deep_le : ∀ (x : V), x.deep ≤ x.size
  | .mk k n s l => by
    have := deepL_le l
    simp only [V.deep, V.size]
    omega
theorem deepL_le : ∀ (l : List V), deepL l ≤ sizeL l
  | [] => by simp [deepL, sizeL]
  | x :: r => by
    have h1 := V.deep_le x
    have h2 := deepL_le r
    simp only [deepL, sizeL]
    omega
end
theorem deepL_take_le : ∀ (l : List V) (k : Nat), deepL (l.take k) ≤ deepL l
  | [], k => by simp
  | y :: r, 0 => by simp [deepL]
  | y :: r, k + 1 => by
    have := deepL_take_le r k
    simp only [List.take_succ_cons, deepL]
    omega

set_option maxHeartbeats 1600000 in
theorem vdeep_any : ∀ (N : Nat) (x : V), x.size ≤ N → x.size ≤ 1099511627776 → ∀ (D : Nat → Prop) (w : World) (u : Array Value), VIn D w x u →
    Calls Try.prog 60 #[.agg u] w fun e w' => e = .returned (.int .i64 x.deep) ∧ Fr (fun _ => False) w w' := by
  intro N
  induction N with
  | zero =>
    intro x h
    rw [V.size_eq] at h
    omega
  | succ N ih =>
    intro x hN hM D w u h
    have hs := V.size_eq x
    have hdp := V.deep_eq x
    have hdl := deepL_le x.l
    obtain ⟨v, rfl, a, cap, us, rfl, hc, hm, hn, hb, hi⟩ := h.open
    have hlm : x.l.length ≤ 9223372036854775807 := Nat.le_trans hc hm
    have hsm : x.s.size ≤ 1099511627776 := by omega
    generalize x.k = kk at *
    generalize x.n = nn at *
    generalize x.s = ss at *
    generalize x.l = l at *
    generalize x.deep = xd at *
    have HB := hid hb; have HI := hid hi; have HS := hid hs; have HM := hid hM; have HN := hid hN; have HDP := hid hdp; have HDL := hid hdl
    clear hb hi hs hM hN h hn hdp hdl
    go_enter Try.func60, Try.ntmps60
    go_wp2
    go_loopw [3, 9] (fun n i wr => ∃ k : Nat, k ≤ l.length ∧ i = .int .i64 k ∧ n = .int .i64 (deepL (l.take k) : Nat) ∧ Fr (fun _ => False) w wr) (fun _ i _ => l.length - (intOf i).toNat)
    case atStart => exact ⟨0, Nat.zero_le _, rfl, by simp [deepL], (Fr.refl _ _).alloc _⟩
    case round =>
      obtain ⟨k, hk, rfl, rfl, hf⟩ := hrel
      by_cases hlt : k < l.length
      · obtain ⟨b, o, y, a', c', rfl, -, hy, hv, e0, e1, e2, e3⟩ := VL.elem HB.out HI.out k hlt
        replace e0 := hf.cell e0 not_false
        replace e1 := hf.cell e1 not_false
        replace e2 := hf.cell e2 not_false
        replace e3 := hf.cell e3 not_false
        have hv2 := fun o' => hv.frame (hf.alloc o') (fun _ _ => not_false)
        have t1 := deepL_take l k y hy
        have t9 := V.deep_le y
        have t8 := deepL_take_le l k
        have t2 := sizeL_mem hy
        have hy1 : y.size ≤ N := by have := HS.out; have := HN.out; omega
        have hy2 : y.size ≤ 1099511627776 := by have := HS.out; have := HM.out; omega
        have hc := ih y hy1 hy2 D
        have hq : y.deep ≤ 1099511627776 := by omega
        have hq2 : deepL (l.take k) ≤ 1099511627776 := by have := HS.out; have := HM.out; have := HDL.out; omega
        clear hv t9 t8
        generalize y.deep = yd at *
        have T1 := hid t1; have T2 := hid t2; have HF := hid hf; have HY := hid hy; have HV := hid hv2; have HC := hid hc
        clear t1 t2 hf hy hv2 hc hy1 hy2
        go_wp2_with fail
        refine (HC.out _ _ (HV.out _)).mono ?_
        rintro e w2 ⟨rfl, hf2⟩
        have HF2 := hid (((HF.out.alloc _).trans' hf2)); clear hf2
        go_wp2
        go_roundw
        case rel => exact ⟨k + 1, by omega, by go_num, by rw [T1.out]; exact int_eq (by omega), HF2.out⟩
        case measure => simp [intOf]; omega
      · have hq4 : deepL l ≤ 1099511627776 := by have := HDL.out; have := HS.out; have := HM.out; omega
        have hq5 : deepL (l.take k) ≤ 1099511627776 := by have := deepL_take_le l k; omega
        go_wp2
        go_ret
        have he2 : xd = 1 + deepL (l.take k) := by
          rw [List.take_of_length_le (by omega)]
          exact HDP.out
        exact ⟨ret_int (by omega), hf⟩
end Go.Proofs.Ytebanmigaikhhaa
