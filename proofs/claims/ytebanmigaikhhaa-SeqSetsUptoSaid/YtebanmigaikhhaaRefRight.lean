/- inglenookref1.Valid, Right; inglenookworld.Values: just what they answer. -/
import Derived.Test.YtebanmigaikhhaaRefOdd
namespace Go.Proofs.Ytebanmigaikhhaa
open Go.RowKit

def V.valid (x : V) : Int := (x.odd 1 0).1
def V.right (x : V) : Bool := x.valid == 0

set_option maxHeartbeats 800000 in
theorem rvalid_any (x : V) (hM : x.size ≤ 1099511627776) (D : Nat → Prop) (w : World) (u : Array Value) (h : VIn D w x u) :
    Calls Try.prog 44 #[.agg u] w fun e w' => e = .returned (.int .i64 x.valid) ∧ Fr (fun _ => False) w w' := by
  obtain ⟨v, rfl, hl⟩ := h.open
  obtain ⟨a, cap, us, rfl, -⟩ := hl
  have hF : ∀ o1 o2, Fr (fun _ => False) w ((w.alloc o1).alloc o2) := fun o1 o2 => ((Fr.refl _ _).alloc _).alloc _
  have hv : ∀ o1 o2, VIn (fun b => b ≠ w.heap.size + 1) ((w.alloc o1).alloc o2) x #[.int .i64 x.k, .int .i64 x.n, .string x.s, .slice a x.l.length cap] := fun o1 o2 => (h.mono fun k hk _ => by omega).frame (hF o1 o2) (fun _ _ => not_false)
  have hb : ∀ o1 : Obj, ((w.alloc o1).alloc (.cells #[.int .i64 0] 68)).heap[w.heap.size + 1]? = some (.cells #[.int .i64 0] 68) := fun o1 => by
    have := heap_alloc_new (w.alloc o1) (.cells #[.int .i64 0] 68)
    simpa using this
  have hodd := fun o1 => odd_any x.size x (Nat.le_refl _) (w.heap.size + 1) ((w.alloc o1).alloc (.cells #[.int .i64 0] 68)) _ 1 0 (hv o1 _) (by omega) (by omega) (hb o1)
  have HC := hid hodd; have HF := hid hF; have HX := hid (show x.valid = (x.odd 1 0).1 from rfl)
  clear hodd hF hv hb h hM
  generalize x.valid = rv at *
  generalize x.odd 1 0 = r at *
  generalize x.k = kk at *
  generalize x.n = nn at *
  generalize x.s = ss at *
  generalize x.l.length = ll at *
  have HD : ∀ o2 : Obj, ((w.alloc (.cells #[.int .i64 kk, .int .i64 nn, .string ss, .slice a ll cap] 30)).alloc o2).heap[w.heap.size]? = some (.cells #[.int .i64 kk, .int .i64 nn, .string ss, .slice a ll cap] 30) := fun o2 => ((Fr.refl (fun _ => False) _).alloc _).heap (heap_alloc_new w _) not_false
  go_enter Try.func44, Try.ntmps44
  go_wp2_with fail
  refine (HC.out _).mono ?_
  rintro e w2 ⟨rfl, hf2, -⟩
  have HF2 := hid ((HF.out _ _).trans hf2 (fun _ _ => id) (fun k hk e => by omega))
  clear hf2
  go_wp2
  go_ret
  exact ⟨by rw [HX.out]; rfl, HF2.out⟩

set_option maxHeartbeats 800000 in
theorem rright_any (x : V) (hM : x.size ≤ 1099511627776) (D : Nat → Prop) (w : World) (u : Array Value) (h : VIn D w x u) :
    Calls Try.prog 17 #[.agg u] w fun e w' => e = .returned (.bool x.right) ∧ Fr (fun _ => False) w w' := by
  obtain ⟨v, rfl, hl⟩ := h.open
  obtain ⟨a, cap, us, rfl, -⟩ := hl
  have hF : ∀ o1, Fr (fun _ => False) w (w.alloc o1) := fun o1 => (Fr.refl _ _).alloc _
  have hodd := fun o1 => rvalid_any x hM D (w.alloc o1) _ (h.frame (hF o1) fun _ _ => id)
  have HC := hid hodd; have HF := hid hF; have HX := hid (show x.right = (x.valid == 0) from rfl)
  clear hodd hF h hM
  generalize x.right = rr at *
  generalize x.valid = rv at *
  generalize x.k = kk at *
  generalize x.n = nn at *
  generalize x.s = ss at *
  generalize x.l.length = ll at *
  go_enter Try.func17, Try.ntmps17
  go_wp2_with fail
  refine (HC.out _).mono ?_
  rintro e w2 ⟨rfl, hf2⟩
  have HF2 := hid ((HF.out _).trans' hf2)
  clear hf2
  go_wp2
  go_ret
  exact ⟨by rw [HX.out]; rfl, HF2.out⟩

theorem all_take {p : V → Bool} (l : List V) (k : Nat) (x : V) (h : l[k]? = some x) : (l.take (k + 1)).all p = ((l.take k).all p && p x) := by
  rw [List.take_add_one, h]
  simp

set_option maxHeartbeats 800000 in
theorem rights_any (most : Nat) (l : List V) (hM : sizeL l ≤ 1099511627776) (D : Nat → Prop) (w : World) (v : Value) (h : VL D w l v) :
    Calls Try.prog 9 #[v, .int .i64 most] w fun e w' => e = .returned (.bool (decide (l.length ≤ most) && l.all V.right)) ∧ Fr (fun _ => False) w w' := by
  obtain ⟨a, cap, us, rfl, hc, hm, hn, hb, hi⟩ := h
  have hlm : l.length ≤ 9223372036854775807 := Nat.le_trans hc hm
  have HB := hid hb; have HI := hid hi; have HM := hid hM
  clear hb hi hM hn
  by_cases hlen : l.length ≤ most
  · have hb0 : decide (most < l.length) = false := decide_eq_false (by omega)
    have hb1 : decide ((most : Int) < (l.length : Int)) = false := decide_eq_false (by omega)
    go_enter Try.func9, Try.ntmps9
    go_wp2_with fail
    go_loopw [5] (fun i wr => ∃ k : Nat, k ≤ l.length ∧ i = .int .i64 k ∧ (l.take k).all V.right = true ∧ Fr (fun _ => False) w wr) (fun i _ => l.length - (intOf i).toNat)
    case atStart => exact ⟨0, Nat.zero_le _, rfl, rfl, Fr.refl _ _⟩
    case round =>
      obtain ⟨k, hk, rfl, hall, hf⟩ := hrel
      by_cases hlt : k < l.length
      · obtain ⟨b, o, y, a', c', rfl, -, hy, hv, e0, e1, e2, e3⟩ := VL.elem HB.out HI.out k hlt
        replace e0 := hf.cell e0 not_false
        replace e1 := hf.cell e1 not_false
        replace e2 := hf.cell e2 not_false
        replace e3 := hf.cell e3 not_false
        have hv2 := hv.frame hf (fun _ _ => not_false)
        have t2 := sizeL_mem hy
        have hy2 : y.size ≤ 1099511627776 := by have := HM.out; omega
        have hc := rright_any y hy2 D wr _ hv2
        have ht := all_take (p := V.right) l k y hy
        rw [hall] at ht
        have hall' : y.right = false → l.all V.right = false := fun e => by
          rw [List.all_eq_false]
          exact ⟨y, List.mem_of_getElem? hy, by simp [e]⟩
        have HFr := hid hf; have HC := hid hc; have HT := hid ht; have HA := hid hall'
        clear hv t2 hf hv2 hc hy hy2 ht hall hall'
        go_wp2_with fail
        refine HC.out.mono ?_
        rintro e w2 ⟨rfl, hf2⟩
        have HF2 := hid (HFr.out.trans' hf2)
        clear hf2
        cases hr : y.right
        · go_wp2
          go_ret
          exact ⟨by rw [HA.out hr, Bool.and_false]; rfl, HF2.out⟩
        · go_wp2
          go_roundw
          case rel => exact ⟨k + 1, by omega, by go_num, by rw [HT.out, hr]; rfl, HF2.out⟩
          case measure => simp [intOf]; omega
      · go_wp2
        go_ret
        rw [List.take_of_length_le (by omega)] at hall
        exact ⟨by rw [hall, decide_eq_true hlen]; rfl, hf⟩
  · go_enter Try.func9, Try.ntmps9
    go_wp2
    go_ret
    exact ⟨by rw [decide_eq_false hlen]; rfl, Fr.refl _ _⟩
end Go.Proofs.Ytebanmigaikhhaa
