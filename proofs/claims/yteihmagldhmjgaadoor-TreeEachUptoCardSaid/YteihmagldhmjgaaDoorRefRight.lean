/- inglenookref1.Valid, Right; inglenookworld.Values: just what they answer. -/
import Derived.Test.YteihmagldhmjgaaDoorRefOdd
namespace Go.Proofs.YteihmagldhmjgaaDoor
open Go.RowKit

def V.valid (x : V) : Int := (x.odd 1 0).1
def V.right (x : V) : Bool := x.valid == 0

set_option maxHeartbeats 800000 in
theorem rvalid_any (x : V) (hM : x.size ≤ 1099511627776) (D : Nat → Prop) (w : World) (u : Array Value) (h : VIn D w x u) :
    Calls Tryd.prog 75 #[.agg u] w fun e w' => e = .returned (.int .i64 x.valid) ∧ Fr (fun _ => False) w w' := by
  obtain ⟨v, rfl, hl⟩ := h.open
  obtain ⟨a, cap, us, rfl, -⟩ := hl
  have hF : ∀ o1 o2, Fr (fun _ => False) w ((w.alloc o1).alloc o2) := fun o1 o2 => ((Fr.refl _ _).alloc _).alloc _
  have hv : ∀ o1 o2, VIn (fun b => b ≠ w.heap.size + 1) ((w.alloc o1).alloc o2) x #[.int .i64 x.k, .int .i64 x.n, .string x.s, .slice a x.l.length cap] := fun o1 o2 => (h.mono fun k hk _ => by omega).frame (hF o1 o2) (fun _ _ => not_false)
  have hb : ∀ o1 : Obj, ((w.alloc o1).alloc (.cells #[.int .i64 0] 126)).heap[w.heap.size + 1]? = some (.cells #[.int .i64 0] 126) := fun o1 => by
    have := heap_alloc_new (w.alloc o1) (.cells #[.int .i64 0] 126)
    simpa using this
  have hodd := fun o1 => odd_any x.size x (Nat.le_refl _) (w.heap.size + 1) ((w.alloc o1).alloc (.cells #[.int .i64 0] 126)) _ 1 0 (hv o1 _) (by omega) (by omega) (hb o1)
  have HC := hid hodd; have HF := hid hF; have HX := hid (show x.valid = (x.odd 1 0).1 from rfl)
  clear hodd hF hv hb h hM
  generalize x.valid = rv at *
  generalize x.odd 1 0 = r at *
  generalize x.k = kk at *
  generalize x.n = nn at *
  generalize x.s = ss at *
  generalize x.l.length = ll at *
  have HD : ∀ o2 : Obj, ((w.alloc (.cells #[.int .i64 kk, .int .i64 nn, .string ss, .slice a ll cap] 26)).alloc o2).heap[w.heap.size]? = some (.cells #[.int .i64 kk, .int .i64 nn, .string ss, .slice a ll cap] 26) := fun o2 => ((Fr.refl (fun _ => False) _).alloc _).heap (heap_alloc_new w _) not_false
  go_enter Tryd.func75, Tryd.ntmps75
  go_wp2_with fail
  refine (HC.out _).mono ?_
  rintro e w2 ⟨rfl, hf2, -⟩
  have HF2 := hid ((HF.out _ _).trans hf2 (fun _ _ => id) (fun k hk e => by omega))
  clear hf2
  go_wp2
  go_ret
  exact ⟨by rw [HX.out]; rfl, HF2.out⟩

set_option maxHeartbeats 800000 in
theorem rright_any (x : V) (hM : x.size ≤ 1099511627776) (D : Nat → Prop) (w : World) (u : Array Value) (h : VIn D w x u) :
    Calls Tryd.prog 60 #[.agg u] w fun e w' => e = .returned (.bool x.right) ∧ Fr (fun _ => False) w w' := by
  obtain ⟨v, rfl, hl⟩ := h.open
  obtain ⟨a, cap, us, rfl, -⟩ := hl
  have hF : ∀ o1, Fr (fun _ => False) w (w.alloc o1) := fun o1 => (Fr.refl _ _).alloc _
  have hodd := fun o1 => rvalid_any x hM D (w.alloc o1) _ (h.frame (hF o1) fun _ _ => id)
  have HC := hid hodd; have HF := hid hF; have HX := hid (show x.right = (x.valid == 0) from rfl)
  clear hodd hF h hM
  generalize x.right = rr at *
  generalize x.valid = rv at *
  generalize x.k = kk at *
  generalize x.n = nn at *
  generalize x.s = ss at *
  generalize x.l.length = ll at *
  go_enter Tryd.func60, Tryd.ntmps60
  go_wp2_with fail
  refine (HC.out _).mono ?_
  rintro e w2 ⟨rfl, hf2⟩
  have HF2 := hid ((HF.out _).trans' hf2)
  clear hf2
  go_wp2
  go_ret
  exact ⟨by rw [HX.out]; rfl, HF2.out⟩

theorem all_take {p : V → Bool} (l : List V) (k : Nat) (x : V) (h : l[k]? = some x) : (l.take (k + 1)).all p = ((l.take k).all p && p x) := by
  rw [List.take_add_one, h]
  simp

end Go.Proofs.YteihmagldhmjgaaDoor
