/- Nodes (api.Node) as trees: how they lie in the world; frames. -/
import Derived.Test.YteihmagldhmjgaaDoorVal
import Derived.Test.YteihmagldhmjgaaDoorValSize
namespace Go.Proofs.YteihmagldhmjgaaDoor
open Go.RowKit

inductive Nd where
  | mk (op ln : Int) (s : ByteArray) (v : V) (l : List Nd)
namespace Nd
def op : Nd → Int | .mk o _ _ _ _ => o
def ln : Nd → Int | .mk _ n _ _ _ => n
def s : Nd → ByteArray | .mk _ _ s _ _ => s
def v : Nd → V | .mk _ _ _ v _ => v
def l : Nd → List Nd | .mk _ _ _ _ l => l
end Nd

/-- The eight cells of a node. -/
def nC (x : Nd) (va la : Value) : Array Value := #[.int .i64 x.op, .int .i64 x.ln, .string x.s, .int .i64 x.v.k, .int .i64 x.v.n, .string x.v.s, va, la]

/-- The eight cells u read as the node x; all blocks that it leads to are in D. -/
inductive NIn (D : Nat → Prop) (w : World) : Nd → Array Value → Prop where
  | mk (op ln : Int) (s : ByteArray) (v : V) (l : List Nd) (va : Value) (a : Option Addr) (cap : Nat) (us : Nat → Array Value) (hv : VL D w v.l va) (hc : l.length ≤ cap) (hm : cap ≤ maxLen)
    (hn : a = none → cap = 0)
    (hb : ∀ i, i < l.length → ∃ b o, a = some ⟨b, o, none⟩ ∧ D b ∧ (us i).size = 8 ∧ ∀ j, j < 8 → w.cell? ⟨b, o + i * 8 + j, none⟩ = (us i)[j]?)
    (hi : ∀ i x, l[i]? = some x → NIn D w x (us i)) : NIn D w (.mk op ln s v l) #[.int .i64 op, .int .i64 ln, .string s, .int .i64 v.k, .int .i64 v.n, .string v.s, va, .slice a l.length cap]

/-- A slice of nodes. -/
def NL (D : Nat → Prop) (w : World) (l : List Nd) (v : Value) : Prop :=
  ∃ a cap, ∃ us : Nat → Array Value, v = .slice a l.length cap ∧ l.length ≤ cap ∧ cap ≤ maxLen ∧ (a = none → cap = 0) ∧
    (∀ i, i < l.length → ∃ b o, a = some ⟨b, o, none⟩ ∧ D b ∧ (us i).size = 8 ∧ ∀ j, j < 8 → w.cell? ⟨b, o + i * 8 + j, none⟩ = (us i)[j]?) ∧ ∀ i x, l[i]? = some x → NIn D w x (us i)

theorem NIn.open {D : Nat → Prop} {w : World} {x : Nd} {u : Array Value} (h : NIn D w x u) : ∃ va v, u = #[.int .i64 x.op, .int .i64 x.ln, .string x.s, .int .i64 x.v.k, .int .i64 x.v.n, .string x.v.s, va, v] ∧ VL D w x.v.l va ∧ NL D w x.l v := by
  cases h with
  | mk op ln s v l va a cap us hv hc hm hn hb hi => exact ⟨_, _, rfl, hv, a, cap, us, rfl, hc, hm, hn, hb, hi⟩
theorem NL.close {D : Nat → Prop} {w : World} {l : List Nd} {v va : Value} (h : NL D w l v) (op ln : Int) (s : ByteArray) (x : V) (hx : VL D w x.l va) : NIn D w (.mk op ln s x l) #[.int .i64 op, .int .i64 ln, .string s, .int .i64 x.k, .int .i64 x.n, .string x.s, va, v] := by
  obtain ⟨a, cap, us, rfl, hc, hm, hn, hb, hi⟩ := h
  exact .mk op ln s x l va a cap us hx hc hm hn hb hi

theorem NIn.frame {D S : Nat → Prop} {w w' : World} {x : Nd} {u : Array Value} (h : NIn D w x u) (hf : Fr S w w') (hd : ∀ k, D k → ¬ S k) : NIn D w' x u := by
  induction h with
  | mk op ln s v l va a cap us hv hc hm hn hb hi ih =>
    refine .mk op ln s v l va a cap us (hv.frame hf hd) hc hm hn (fun i hil => ?_) ih
    obtain ⟨b, o, e, hD, h4, hcell⟩ := hb i hil
    refine ⟨b, o, e, hD, h4, fun j hj => ?_⟩
    have h1 := hcell j hj
    rw [Array.getElem?_eq_getElem (by omega)] at h1 ⊢
    exact hf.cell h1 (hd _ hD)
theorem NIn.mono {D E : Nat → Prop} {w : World} {x : Nd} {u : Array Value} (h : NIn D w x u) (hd : ∀ k, k < w.heap.size → D k → E k) : NIn E w x u := by
  induction h with
  | mk op ln s v l va a cap us hv hc hm hn hb hi ih =>
    refine .mk op ln s v l va a cap us (hv.mono hd) hc hm hn (fun i hil => ?_) ih
    obtain ⟨b, o, e, hD, h4, hcell⟩ := hb i hil
    have h1 := hcell 0 (by omega)
    rw [Array.getElem?_eq_getElem (by omega)] at h1
    exact ⟨b, o, e, hd _ (World.block_lt_of_cell? _ _ h1) hD, h4, hcell⟩
theorem NL.frame {D S : Nat → Prop} {w w' : World} {l : List Nd} {v : Value} (h : NL D w l v) (hf : Fr S w w') (hd : ∀ k, D k → ¬ S k) : NL D w' l v := by
  have := ((h.close 0 0 ⟨#[]⟩ (.mk 0 0 ⟨#[]⟩ []) (VL.nil D w)).frame hf hd).open
  obtain ⟨va, v', e, -, h'⟩ := this
  simp at e
  obtain ⟨-, -, -, -, -, -, -, rfl⟩ := e
  exact h'
theorem NL.mono {D E : Nat → Prop} {w : World} {l : List Nd} {v : Value} (h : NL D w l v) (hd : ∀ k, k < w.heap.size → D k → E k) : NL E w l v := by
  have := ((h.close 0 0 ⟨#[]⟩ (.mk 0 0 ⟨#[]⟩ []) (VL.nil D w)).mono hd).open
  obtain ⟨va, v', e, -, h'⟩ := this
  simp at e
  obtain ⟨-, -, -, -, -, -, -, rfl⟩ := e
  exact h'
theorem NL.nil (D : Nat → Prop) (w : World) : NL D w [] (.slice none 0 0) :=
  ⟨none, 0, fun _ => #[], rfl, Nat.le_refl _, Nat.zero_le _, fun _ => rfl, fun i hi => by simp at hi, fun i x h => by simp at h⟩
/-- The k-th of a slice of nodes. -/
theorem NL.elem {D : Nat → Prop} {w : World} {l : List Nd} {a : Option Addr} {us : Nat → Array Value}
    (hb : ∀ i, i < l.length → ∃ b o, a = some ⟨b, o, none⟩ ∧ D b ∧ (us i).size = 8 ∧ ∀ j, j < 8 → w.cell? ⟨b, o + i * 8 + j, none⟩ = (us i)[j]?) (hi : ∀ i x, l[i]? = some x → NIn D w x (us i)) (k : Nat) (hk : k < l.length) :
    ∃ b o y va c1 a' c', a = some ⟨b, o, none⟩ ∧ D b ∧ l[k]? = some y ∧ NIn D w y #[.int .i64 y.op, .int .i64 y.ln, .string y.s, .int .i64 y.v.k, .int .i64 y.v.n, .string y.v.s, .slice va y.v.l.length c1, .slice a' y.l.length c'] ∧
      w.cell? ⟨b, o + k * 8, none⟩ = some (.int .i64 y.op) ∧ w.cell? ⟨b, o + k * 8 + 1, none⟩ = some (.int .i64 y.ln) ∧ w.cell? ⟨b, o + k * 8 + 2, none⟩ = some (.string y.s) ∧ w.cell? ⟨b, o + k * 8 + 3, none⟩ = some (.int .i64 y.v.k) ∧
      w.cell? ⟨b, o + k * 8 + 4, none⟩ = some (.int .i64 y.v.n) ∧ w.cell? ⟨b, o + k * 8 + 5, none⟩ = some (.string y.v.s) ∧ w.cell? ⟨b, o + k * 8 + 6, none⟩ = some (.slice va y.v.l.length c1) ∧ w.cell? ⟨b, o + k * 8 + 7, none⟩ = some (.slice a' y.l.length c') := by
  obtain ⟨b, o, rfl, hD, h4, hcell⟩ := hb k hk
  have hv := hi k l[k] (List.getElem?_eq_getElem hk)
  obtain ⟨va, v, e, ⟨va', c1, us1, rfl, -⟩, ⟨a', c', us', rfl, -⟩⟩ := hv.open
  rw [e] at hv hcell
  exact ⟨b, o, l[k], va', c1, a', c', rfl, hD, List.getElem?_eq_getElem hk, hv, hcell 0 (by omega), hcell 1 (by omega), hcell 2 (by omega), hcell 3 (by omega), hcell 4 (by omega), hcell 5 (by omega), hcell 6 (by omega), hcell 7 (by omega)⟩

mutual
/-- How many nodes. -/
def Nd.cnt : Nd → Nat
  | .mk _ _ _ _ l => 1 + cntL l
def cntL : List Nd → Nat
  | [] => 0
  | x :: r => Nd.cnt x + cntL r
end
mutual
/-- How deep. -/
def Nd.dep : Nd → Nat
  | .mk _ _ _ _ l => 1 + depL l
def depL : List Nd → Nat
  | [] => 0
  | x :: r => max (Nd.dep x) (depL r)
end
theorem Nd.cnt_eq (x : Nd) : x.cnt = 1 + cntL x.l := by cases x; simp [Nd.cnt, Nd.l]
theorem Nd.dep_eq (x : Nd) : x.dep = 1 + depL x.l := by cases x; simp [Nd.dep, Nd.l]
theorem cntL_take : ∀ (l : List Nd) (k : Nat) (x : Nd), l[k]? = some x → cntL (l.take (k + 1)) = cntL (l.take k) + x.cnt
  | [], k, x, h => by simp at h
  | y :: r, 0, x, h => by
    simp at h
    subst h
    simp [cntL]
  | y :: r, k + 1, x, h => by
    have := cntL_take r k x (by simpa using h)
    simp only [List.take_succ_cons, cntL, this]
    omega
theorem cntL_take_le : ∀ (l : List Nd) (k : Nat), cntL (l.take k) ≤ cntL l
  | [], k => by simp
  | y :: r, 0 => by simp [cntL]
  | y :: r, k + 1 => by
    have := cntL_take_le r k
    simp only [List.take_succ_cons, cntL]
    omega
theorem cntL_mem {l : List Nd} {k : Nat} {x : Nd} (h : l[k]? = some x) : x.cnt ≤ cntL l := by
  have h1 := cntL_take l k x h
  have h2 := cntL_take_le l (k + 1)
  omega
theorem len_le_cnt : ∀ (l : List Nd), l.length ≤ cntL l
  | [] => by simp
  | x :: r => by
    have := len_le_cnt r
    have h := Nd.cnt_eq x
    simp only [List.length_cons, cntL]
    omega
theorem depL_take : ∀ (l : List Nd) (k : Nat) (x : Nd), l[k]? = some x → depL (l.take (k + 1)) = max (depL (l.take k)) x.dep
  | [], k, x, h => by simp at h
  | y :: r, 0, x, h => by
    simp at h
    subst h
    simp [depL]
  | y :: r, k + 1, x, h => by
    have := depL_take r k x (by simpa using h)
    simp only [List.take_succ_cons, depL, this]
    omega
mutual
theorem Nd.dep_le : ∀ (x : Nd), x.dep ≤ x.cnt
  | .mk _ _ _ _ l => by
    have := depL_le' l
    simp only [Nd.dep, Nd.cnt]
    omega
theorem depL_le' : ∀ (l : List Nd), depL l ≤ cntL l
  | [] => by simp [depL]
  | x :: r => by
    have h1 := Nd.dep_le x
    have h2 := depL_le' r
    simp only [depL, cntL]
    omega
end
end Go.Proofs.YteihmagldhmjgaaDoor
