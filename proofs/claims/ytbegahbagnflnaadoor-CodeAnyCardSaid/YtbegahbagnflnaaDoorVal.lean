/- Values (api.Value) as trees: how they lie in the world; frames. -/
import Derived.Test.YtbegahbagnflnaaDoorLib
namespace Go.Proofs.YtbegahbagnflnaaDoor
open Go.RowKit

inductive V where
  | mk (k n : Int) (s : ByteArray) (l : List V)
namespace V
def k : V → Int | .mk k _ _ _ => k
def n : V → Int | .mk _ n _ _ => n
def s : V → ByteArray | .mk _ _ s _ => s
def l : V → List V | .mk _ _ _ l => l
end V

/-- The four cells u read as the value x; all blocks that it leads to are in D. -/
inductive VIn (D : Nat → Prop) (w : World) : V → Array Value → Prop where
  | mk (k n : Int) (s : ByteArray) (l : List V) (a : Option Addr) (cap : Nat) (us : Nat → Array Value) (hc : l.length ≤ cap) (hm : cap ≤ maxLen)
    (hn : a = none → cap = 0)
    (hb : ∀ i, i < l.length → ∃ b o, a = some ⟨b, o, none⟩ ∧ D b ∧ (us i).size = 4 ∧ ∀ j, j < 4 → w.cell? ⟨b, o + i * 4 + j, none⟩ = (us i)[j]?)
    (hi : ∀ i x, l[i]? = some x → VIn D w x (us i)) : VIn D w (.mk k n s l) #[.int .i64 k, .int .i64 n, .string s, .slice a l.length cap]

/-- A slice of values. -/
def VL (D : Nat → Prop) (w : World) (l : List V) (v : Value) : Prop :=
  ∃ a cap, ∃ us : Nat → Array Value, v = .slice a l.length cap ∧ l.length ≤ cap ∧ cap ≤ maxLen ∧ (a = none → cap = 0) ∧
    (∀ i, i < l.length → ∃ b o, a = some ⟨b, o, none⟩ ∧ D b ∧ (us i).size = 4 ∧ ∀ j, j < 4 → w.cell? ⟨b, o + i * 4 + j, none⟩ = (us i)[j]?) ∧ ∀ i x, l[i]? = some x → VIn D w x (us i)

theorem VIn.open {D : Nat → Prop} {w : World} {x : V} {u : Array Value} (h : VIn D w x u) : ∃ v, u = #[.int .i64 x.k, .int .i64 x.n, .string x.s, v] ∧ VL D w x.l v := by
  cases h with
  | mk k n s l a cap us hc hm hn hb hi => exact ⟨_, rfl, a, cap, us, rfl, hc, hm, hn, hb, hi⟩
theorem VL.close {D : Nat → Prop} {w : World} {l : List V} {v : Value} (h : VL D w l v) (k n : Int) (s : ByteArray) : VIn D w (.mk k n s l) #[.int .i64 k, .int .i64 n, .string s, v] := by
  obtain ⟨a, cap, us, rfl, hc, hm, hn, hb, hi⟩ := h
  exact .mk k n s l a cap us hc hm hn hb hi

theorem VIn.frame {D S : Nat → Prop} {w w' : World} {x : V} {u : Array Value} (h : VIn D w x u) (hf : Fr S w w') (hd : ∀ k, D k → ¬ S k) : VIn D w' x u := by
  induction h with
  | mk k n s l a cap us hc hm hn hb hi ih =>
    refine .mk k n s l a cap us hc hm hn (fun i hil => ?_) ih
    obtain ⟨b, o, e, hD, h4, hcell⟩ := hb i hil
    refine ⟨b, o, e, hD, h4, fun j hj => ?_⟩
    have h1 := hcell j hj
    rw [Array.getElem?_eq_getElem (by omega)] at h1 ⊢
    exact hf.cell h1 (hd _ hD)
theorem VIn.mono {D E : Nat → Prop} {w : World} {x : V} {u : Array Value} (h : VIn D w x u) (hd : ∀ k, k < w.heap.size → D k → E k) : VIn E w x u := by
  induction h with
  | mk k n s l a cap us hc hm hn hb hi ih =>
    refine .mk k n s l a cap us hc hm hn (fun i hil => ?_) ih
    obtain ⟨b, o, e, hD, h4, hcell⟩ := hb i hil
    have h1 := hcell 0 (by omega)
    rw [Array.getElem?_eq_getElem (by omega)] at h1
    exact ⟨b, o, e, hd _ (World.block_lt_of_cell? _ _ h1) hD, h4, hcell⟩
theorem VL.frame {D S : Nat → Prop} {w w' : World} {l : List V} {v : Value} (h : VL D w l v) (hf : Fr S w w') (hd : ∀ k, D k → ¬ S k) : VL D w' l v := by
  have := ((h.close 0 0 ⟨#[]⟩).frame hf hd).open
  obtain ⟨v', e, h'⟩ := this
  simp at e
  obtain ⟨-, -, -, rfl⟩ := e
  exact h'
theorem VL.mono {D E : Nat → Prop} {w : World} {l : List V} {v : Value} (h : VL D w l v) (hd : ∀ k, k < w.heap.size → D k → E k) : VL E w l v := by
  have := ((h.close 0 0 ⟨#[]⟩).mono hd).open
  obtain ⟨v', e, h'⟩ := this
  simp at e
  obtain ⟨-, -, -, rfl⟩ := e
  exact h'
theorem VL.nil (D : Nat → Prop) (w : World) : VL D w [] (.slice none 0 0) :=
  ⟨none, 0, fun _ => #[], rfl, Nat.le_refl _, Nat.zero_le _, fun _ => rfl, fun i hi => by simp at hi, fun i x h => by simp at h⟩
/-- The k-th of a slice of values. -/
theorem VL.elem {D : Nat → Prop} {w : World} {l : List V} {a : Option Addr} {us : Nat → Array Value}
    (hb : ∀ i, i < l.length → ∃ b o, a = some ⟨b, o, none⟩ ∧ D b ∧ (us i).size = 4 ∧ ∀ j, j < 4 → w.cell? ⟨b, o + i * 4 + j, none⟩ = (us i)[j]?) (hi : ∀ i x, l[i]? = some x → VIn D w x (us i)) (k : Nat) (hk : k < l.length) :
    ∃ b o y a' c', a = some ⟨b, o, none⟩ ∧ D b ∧ l[k]? = some y ∧ VIn D w y #[.int .i64 y.k, .int .i64 y.n, .string y.s, .slice a' y.l.length c'] ∧ w.cell? ⟨b, o + k * 4, none⟩ = some (.int .i64 y.k) ∧
      w.cell? ⟨b, o + k * 4 + 1, none⟩ = some (.int .i64 y.n) ∧ w.cell? ⟨b, o + k * 4 + 2, none⟩ = some (.string y.s) ∧ w.cell? ⟨b, o + k * 4 + 3, none⟩ = some (.slice a' y.l.length c') := by
  obtain ⟨b, o, rfl, hD, h4, hcell⟩ := hb k hk
  have hv := hi k l[k] (List.getElem?_eq_getElem hk)
  obtain ⟨v, e, a', c', us', rfl, _⟩ := hv.open
  rw [e] at hv hcell
  exact ⟨b, o, l[k], a', c', rfl, hD, List.getElem?_eq_getElem hk, hv, hcell 0 (by omega), hcell 1 (by omega), hcell 2 (by omega), hcell 3 (by omega)⟩
end Go.Proofs.YtbegahbagnflnaaDoor
