/- val.Size. -/
import Derived.Test.YtebanmigaikhhaaVal
import Derived.Test.YtebanmigaikhhaaRegion
namespace Go.Proofs.Ytebanmigaikhhaa
open Go.RowKit

mutual
def V.size : V → Nat
  | .mk _ _ s l => 1 + s.size + sizeL l
def sizeL : List V → Nat
  | [] => 0
  | x :: r => V.size x + sizeL r
end
theorem V.size_eq (x : V) : x.size = 1 + x.s.size + sizeL x.l := by cases x; simp [V.size, V.s, V.l]
theorem sizeL_take : ∀ (l : List V) (k : Nat) (x : V), l[k]? = some x → sizeL (l.take (k + 1)) = sizeL (l.take k) + x.size
  | [], k, x, h => by simp at h
  | y :: r, 0, x, h => by
    simp at h
    subst h
    simp [sizeL]
  | y :: r, k + 1, x, h => by
    have := sizeL_take r k x (by simpa using h)
    simp only [List.take_succ_cons, sizeL, this]
    omega
theorem sizeL_take_le : ∀ (l : List V) (k : Nat), sizeL (l.take k) ≤ sizeL l
  | [], k => by simp
  | y :: r, 0 => by simp [sizeL]
  | y :: r, k + 1 => by
    have := sizeL_take_le r k
    simp only [List.take_succ_cons, sizeL]
    omega
theorem sizeL_mem {l : List V} {k : Nat} {x : V} (h : l[k]? = some x) : x.size ≤ sizeL l := by
  have h1 := sizeL_take l k x h
  have h2 := sizeL_take_le l (k + 1)
  omega

set_option maxHeartbeats 1600000 in
theorem vsize_any : ∀ (N : Nat) (x : V), x.size ≤ N → x.size ≤ 4611686018427387904 → ∀ (D : Nat → Prop) (w : World) (u : Array Value), VIn D w x u →
    Calls Try.prog 61 #[.agg u] w fun e w' => e = .returned (.int .i64 x.size) ∧ Fr (fun _ => False) w w' := by
  intro N
  induction N with
  | zero =>
    intro x h
    rw [V.size_eq] at h
    omega
  | succ N ih =>
    intro x hN hM D w u h
    have hs := V.size_eq x
    obtain ⟨v, rfl, a, cap, us, rfl, hc, hm, hn, hb, hi⟩ := h.open
    have hlm : x.l.length ≤ 9223372036854775807 := Nat.le_trans hc hm
    have hsm : x.s.size ≤ 4611686018427387904 := by omega
    generalize x.k = kk at *
    generalize x.n = nn at *
    generalize x.s = ss at *
    generalize x.l = l at *
    have HB := hid hb; have HI := hid hi; have HS := hid hs; have HM := hid hM; have HN := hid hN
    clear hb hi hs hM hN h hn
    go_enter Try.func61, Try.ntmps61
    go_wp2
    go_loopw [3, 13] (fun n i wr => ∃ k : Nat, k ≤ l.length ∧ i = .int .i64 k ∧ n = .int .i64 ((1 + ss.size + sizeL (l.take k) : Nat) : Int) ∧ Fr (fun _ => False) w wr) (fun _ i _ => l.length - (intOf i).toNat)
    case atStart => exact ⟨0, Nat.zero_le _, rfl, by simp [sizeL], (Fr.refl _ _).alloc _⟩
    case round =>
      obtain ⟨k, hk, rfl, rfl, hf⟩ := hrel
      by_cases hlt : k < l.length
      · obtain ⟨b, o, y, a', c', rfl, -, hy, hv, e0, e1, e2, e3⟩ := VL.elem HB.out HI.out k hlt
        replace e0 := hf.cell e0 not_false
        replace e1 := hf.cell e1 not_false
        replace e2 := hf.cell e2 not_false
        replace e3 := hf.cell e3 not_false
        have hv2 := fun o' => hv.frame (hf.alloc o') (fun _ _ => not_false)
        have t1 := sizeL_take l k y hy
        have t2 := sizeL_mem hy
        have hy1 : y.size ≤ N := by have := HS.out; have := HN.out; omega
        have hy2 : y.size ≤ 4611686018427387904 := by have := HS.out; have := HM.out; omega
        have hc := ih y hy1 hy2 D
        have t3 := sizeL_take_le l (k + 1)
        have hq : 1 + ss.size + sizeL (l.take k) + y.size ≤ 4611686018427387904 := by have := HS.out; have := HM.out; omega
        clear hv t3
        have T1 := hid t1; have T2 := hid t2; have HF := hid hf; have HY := hid hy; have HV := hid hv2; have HC := hid hc
        clear t1 t2 hf hy hv2 hc hy1 hy2
        go_wp2_with fail
        refine (HC.out _ _ (HV.out _)).mono ?_
        rintro e w2 ⟨rfl, hf2⟩
        have HF2 := hid (((HF.out.alloc _).trans' hf2)); clear hf2
        go_wp2
        go_roundw
        case rel => exact ⟨k + 1, by omega, by go_num, by rw [T1.out]; exact int_eq (by omega), HF2.out⟩
        case measure => simp [intOf]; omega
      · have he : sizeL (l.take k) = sizeL l := by rw [List.take_of_length_le (by omega)]
        go_wp2
        go_ret
        exact ⟨ret_int (by have := HS.out; omega), hf⟩
end Go.Proofs.Ytebanmigaikhhaa
