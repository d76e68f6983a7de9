/- val.Valid: the error that the document's number tells. -/
import Derived.Test.YteihmagldhmjgaaDoorVWalk
import Derived.Test.YteihmagldhmjgaaDoorRefRight
namespace Go.Proofs.YteihmagldhmjgaaDoor
open Go.RowKit

theorem own_shape {k n : Int} (s : ByteArray) (e : Bool) (h : oddRange k n = false) : oddShape k n s e = (ownShape k n s e || !printed s) := by
  have hk : k = 0 ∨ k = 1 ∨ k = 2 ∨ k = 3 ∨ k = 4 := by
    simp [oddRange] at h
    omega
  unfold oddShape ownShape
  rcases hk with rfl | rfl | rfl | rfl | rfl <;> cases hn : (n != 0) <;> cases hs : (s.size != 0) <;> cases e <;> cases printed s <;> rfl
mutual
theorem V.vw_odd : ∀ (x : V) (deep sz left : Nat), sz + left = 4096 → (x.odd deep sz).1 = (x.vw deep left).1 ∧ ((x.vw deep left).1 = 0 → (x.odd deep sz).2 + (x.vw deep left).2 = 4096)
  | .mk k n s l, deep, sz, left, h => by
    have h2 := vwL_odd l (deep + 1) (oddSize k s sz) (left - (1 + strOf k s))
    have hsz : oddSize k s sz = sz + 1 + strOf k s := rfl
    simp only [V.odd, V.vw]
    by_cases h1 : 40 < deep
    · simp [h1]
    simp only [if_neg h1]
    by_cases h3 : left ≤ strOf k s
    · simp [h3, show 4096 < oddSize k s sz by omega]
    simp only [if_neg h3, if_neg (show ¬ 4096 < oddSize k s sz by omega)]
    cases er : oddRange k n
    · have eo := own_shape s l.isEmpty er
      rw [eo]
      simp only [ownCode, er, Bool.false_eq_true, if_false]
      cases ownShape k n s l.isEmpty <;> cases printed s <;> simp
      exact h2 (by omega)
    · simp [ownCode, er]
theorem vwL_odd : ∀ (l : List V) (deep sz left : Nat), sz + left = 4096 → (oddL l deep sz).1 = (vwL l deep left).1 ∧ ((vwL l deep left).1 = 0 → (oddL l deep sz).2 + (vwL l deep left).2 = 4096)
  | [], deep, sz, left, h => by simp [oddL, vwL, h]
  | x :: r, deep, sz, left, h => by
    obtain ⟨h1, h2⟩ := V.vw_odd x deep sz left h
    simp only [oddL, vwL]
    by_cases h0 : (x.vw deep left).1 = 0
    · rw [if_pos (h1.trans h0), if_pos h0]
      exact vwL_odd r deep _ _ (h2 h0)
    · rw [if_neg (fun e => h0 (h1.symm.trans e)), if_neg h0]
      exact ⟨h1, fun e => absurd e h0⟩
end
theorem V.vcode (x : V) : (x.vw 1 4096).1 = x.valid := (V.vw_odd x 1 0 4096 rfl).1.symm

set_option maxHeartbeats 800000 in
theorem vvalid_any (eD eM eR eS : Value) (i1 : IsErr eD) (i2 : IsErr eM) (i3 : IsErr eR) (i4 : IsErr eS) (x : V) (hM : x.size ≤ 1099511627776) (D : Nat → Prop) (w : World) (u : Array Value) (h : VIn D w x u) (hE : Errs w eD eM eR eS) (h4 : 7 ≤ w.heap.size) :
    Calls Tryd.prog 93 #[.agg u] w fun e w' => e = .returned (ev eD eM eR eS x.valid) ∧ Fr (fun _ => False) w w' := by
  obtain ⟨v, rfl, hl⟩ := h.open
  obtain ⟨a, cap, us, rfl, -⟩ := hl
  have hF : ∀ o1 o2, Fr (fun _ => False) w ((w.alloc o1).alloc o2) := fun o1 o2 => ((Fr.refl _ _).alloc _).alloc _
  have hv : ∀ o1 o2, VIn (fun b => b ≠ w.heap.size + 1) ((w.alloc o1).alloc o2) x #[.int .i64 x.k, .int .i64 x.n, .string x.s, .slice a x.l.length cap] := fun o1 o2 => (h.mono fun k hk _ => by omega).frame (hF o1 o2) (fun _ _ => not_false)
  have hb : ∀ o1 : Obj, ((w.alloc o1).alloc (.cells #[.int .i64 4096] 3)).heap[w.heap.size + 1]? = some (.cells #[.int .i64 (4096 : Nat)] 3) := fun o1 => by
    have := heap_alloc_new (w.alloc o1) (.cells #[.int .i64 4096] 3)
    simpa using this
  have hodd := fun o1 => vw_any eD eM eR eS i1 i2 i3 i4 x.size x (Nat.le_refl _) (w.heap.size + 1) ((w.alloc o1).alloc (.cells #[.int .i64 4096] 3)) _ 1 4096 (hv o1 _) (by omega) hM (by omega) (hb o1) (hE.frame (hF _ _) (fun _ _ => id)) (by omega)
  have HC := hid hodd; have HF := hid hF; have HX := hid x.vcode
  clear hodd hF hv hb h hM hE i1 i2 i3 i4
  generalize x.valid = rv at *
  generalize x.vw 1 4096 = r at *
  generalize x.k = kk at *
  generalize x.n = nn at *
  generalize x.s = ss at *
  generalize x.l.length = ll at *
  have hd : ∀ o2 : Obj, ((w.alloc (.cells #[.int .i64 kk, .int .i64 nn, .string ss, .slice a ll cap] 26)).alloc o2).heap[w.heap.size]? = some (.cells #[.int .i64 kk, .int .i64 nn, .string ss, .slice a ll cap] 26) := fun o2 => ((Fr.refl (fun _ => False) _).alloc _).heap (heap_alloc_new w _) not_false
  have HD := hid hd
  clear hd
  go_enter Tryd.func93, Tryd.ntmps93
  go_wp2_with fail
  refine (HC.out _).mono ?_
  rintro e w2 ⟨rfl, hf2, -⟩
  have HF2 := hid ((HF.out _ _).trans hf2 (fun _ _ => id) (fun k hk e => by omega))
  clear hf2
  go_wp2
  go_ret
  exact ⟨by rw [← HX.out]; rfl, HF2.out⟩
end Go.Proofs.YteihmagldhmjgaaDoor
