/- ValSize, Nod, Wire, Crc, FrameA, FrameB, FrameC, See0: several texts in one: a claim has at most 60 files -/
import Derived.Test.YtbegahbagnflnaaDoorVal
import Derived.Test.YtbegahbagnflnaaDoorRegion
import Derived.Test.YtbegahbagnflnaaDoorLib
import Derived.Laws.BitsAll
import Derived.Laws.Tables
set_option linter.unusedSimpArgs false
set_option linter.unusedVariables false
set_option linter.unnecessarySimpa false
namespace Go.Proofs.YtbegahbagnflnaaDoor
section
open Go.RowKit

mutual
def V.size : V → Nat
  | .mk _ _ s l => 1 + s.size + sizeL l
def sizeL : List V → Nat
  | [] => 0
  | x :: r => V.size x + sizeL r
end
theorem V.size_eq (x : V) : x.size = 1 + x.s.size + sizeL x.l := by cases x; simp [V.size, V.s, V.l]
theorem sizeL_take : ∀ (l : List V) (k : Nat) (x : V), l[k]? = some x → sizeL (l.take (k + 1)) = sizeL (l.take k) + x.size
  | [], k, x, h => by simp at h
  | y :: r, 0, x, h => by
    simp at h
    subst h
    simp [sizeL]
  | y :: r, k + 1, x, h => by
    have := sizeL_take r k x (by simpa using h)
    simp only [List.take_succ_cons, sizeL, this]
    omega
theorem sizeL_take_le : ∀ (l : List V) (k : Nat), sizeL (l.take k) ≤ sizeL l
  | [], k => by simp
  | y :: r, 0 => by simp [sizeL]
  | y :: r, k + 1 => by
    have := sizeL_take_le r k
    simp only [List.take_succ_cons, sizeL]
    omega
theorem sizeL_mem {l : List V} {k : Nat} {x : V} (h : l[k]? = some x) : x.size ≤ sizeL l := by
  have h1 := sizeL_take l k x h
  have h2 := sizeL_take_le l (k + 1)
  omega

end
section
open Go.RowKit

inductive Nd where
  | mk (op ln : Int) (s : ByteArray) (v : V) (l : List Nd)
namespace Nd
def op : Nd → Int | .mk o _ _ _ _ => o
def ln : Nd → Int | .mk _ n _ _ _ => n
def s : Nd → ByteArray | .mk _ _ s _ _ => s
def v : Nd → V | .mk _ _ _ v _ => v
def l : Nd → List Nd | .mk _ _ _ _ l => l
end Nd

/-- The eight cells of a node. -/
def nC (x : Nd) (va la : Value) : Array Value := #[.int .i64 x.op, .int .i64 x.ln, .string x.s, .int .i64 x.v.k, .int .i64 x.v.n, .string x.v.s, va, la]

/-- The eight cells u read as the node x; all blocks that it leads to are in D. -/
inductive NIn (D : Nat → Prop) (w : World) : Nd → Array Value → Prop where
  | mk (op ln : Int) (s : ByteArray) (v : V) (l : List Nd) (va : Value) (a : Option Addr) (cap : Nat) (us : Nat → Array Value) (hv : VL D w v.l va) (hc : l.length ≤ cap) (hm : cap ≤ maxLen)
    (hn : a = none → cap = 0)
    (hb : ∀ i, i < l.length → ∃ b o, a = some ⟨b, o, none⟩ ∧ D b ∧ (us i).size = 8 ∧ ∀ j, j < 8 → w.cell? ⟨b, o + i * 8 + j, none⟩ = (us i)[j]?)
    (hi : ∀ i x, l[i]? = some x → NIn D w x (us i)) : NIn D w (.mk op ln s v l) #[.int .i64 op, .int .i64 ln, .string s, .int .i64 v.k, .int .i64 v.n, .string v.s, va, .slice a l.length cap]

/-- A slice of nodes. -/
def NL (D : Nat → Prop) (w : World) (l : List Nd) (v : Value) : Prop :=
  ∃ a cap, ∃ us : Nat → Array Value, v = .slice a l.length cap ∧ l.length ≤ cap ∧ cap ≤ maxLen ∧ (a = none → cap = 0) ∧
    (∀ i, i < l.length → ∃ b o, a = some ⟨b, o, none⟩ ∧ D b ∧ (us i).size = 8 ∧ ∀ j, j < 8 → w.cell? ⟨b, o + i * 8 + j, none⟩ = (us i)[j]?) ∧ ∀ i x, l[i]? = some x → NIn D w x (us i)

theorem NIn.open {D : Nat → Prop} {w : World} {x : Nd} {u : Array Value} (h : NIn D w x u) : ∃ va v, u = #[.int .i64 x.op, .int .i64 x.ln, .string x.s, .int .i64 x.v.k, .int .i64 x.v.n, .string x.v.s, va, v] ∧ VL D w x.v.l va ∧ NL D w x.l v := by
  cases h with
  | mk op ln s v l va a cap us hv hc hm hn hb hi => exact ⟨_, _, rfl, hv, a, cap, us, rfl, hc, hm, hn, hb, hi⟩
theorem NL.close {D : Nat → Prop} {w : World} {l : List Nd} {v va : Value} (h : NL D w l v) (op ln : Int) (s : ByteArray) (x : V) (hx : VL D w x.l va) : NIn D w (.mk op ln s x l) #[.int .i64 op, .int .i64 ln, .string s, .int .i64 x.k, .int .i64 x.n, .string x.s, va, v] := by
  obtain ⟨a, cap, us, rfl, hc, hm, hn, hb, hi⟩ := h
  exact .mk op ln s x l va a cap us hx hc hm hn hb hi

theorem NIn.frame {D S : Nat → Prop} {w w' : World} {x : Nd} {u : Array Value} (h : NIn D w x u) (hf : Fr S w w') (hd : ∀ k, D k → ¬ S k) : NIn D w' x u := by
  induction h with
  | mk op ln s v l va a cap us hv hc hm hn hb hi ih =>
    refine .mk op ln s v l va a cap us (hv.frame hf hd) hc hm hn (fun i hil => ?_) ih
    obtain ⟨b, o, e, hD, h4, hcell⟩ := hb i hil
    refine ⟨b, o, e, hD, h4, fun j hj => ?_⟩
    have h1 := hcell j hj
    rw [Array.getElem?_eq_getElem (by omega)] at h1 ⊢
    exact hf.cell h1 (hd _ hD)
theorem NIn.mono {D E : Nat → Prop} {w : World} {x : Nd} {u : Array Value} (h : NIn D w x u) (hd : ∀ k, k < w.heap.size → D k → E k) : NIn E w x u := by
  induction h with
  | mk op ln s v l va a cap us hv hc hm hn hb hi ih =>
    refine .mk op ln s v l va a cap us (hv.mono hd) hc hm hn (fun i hil => ?_) ih
    obtain ⟨b, o, e, hD, h4, hcell⟩ := hb i hil
    have h1 := hcell 0 (by omega)
    rw [Array.getElem?_eq_getElem (by omega)] at h1
    exact ⟨b, o, e, hd _ (World.block_lt_of_cell? _ _ h1) hD, h4, hcell⟩
theorem NL.frame {D S : Nat → Prop} {w w' : World} {l : List Nd} {v : Value} (h : NL D w l v) (hf : Fr S w w') (hd : ∀ k, D k → ¬ S k) : NL D w' l v := by
  have := ((h.close 0 0 ⟨#[]⟩ (.mk 0 0 ⟨#[]⟩ []) (VL.nil D w)).frame hf hd).open
  obtain ⟨va, v', e, -, h'⟩ := this
  simp at e
  obtain ⟨-, -, -, -, -, -, -, rfl⟩ := e
  exact h'
theorem NL.mono {D E : Nat → Prop} {w : World} {l : List Nd} {v : Value} (h : NL D w l v) (hd : ∀ k, k < w.heap.size → D k → E k) : NL E w l v := by
  have := ((h.close 0 0 ⟨#[]⟩ (.mk 0 0 ⟨#[]⟩ []) (VL.nil D w)).mono hd).open
  obtain ⟨va, v', e, -, h'⟩ := this
  simp at e
  obtain ⟨-, -, -, -, -, -, -, rfl⟩ := e
  exact h'
theorem NL.nil (D : Nat → Prop) (w : World) : NL D w [] (.slice none 0 0) :=
  ⟨none, 0, fun _ => #[], rfl, Nat.le_refl _, Nat.zero_le _, fun _ => rfl, fun i hi => by simp at hi, fun i x h => by simp at h⟩
/-- The k-th of a slice of nodes. -/
theorem NL.elem {D : Nat → Prop} {w : World} {l : List Nd} {a : Option Addr} {us : Nat → Array Value}
    (hb : ∀ i, i < l.length → ∃ b o, a = some ⟨b, o, none⟩ ∧ D b ∧ (us i).size = 8 ∧ ∀ j, j < 8 → w.cell? ⟨b, o + i * 8 + j, none⟩ = (us i)[j]?) (hi : ∀ i x, l[i]? = some x → NIn D w x (us i)) (k : Nat) (hk : k < l.length) :
    ∃ b o y va c1 a' c', a = some ⟨b, o, none⟩ ∧ D b ∧ l[k]? = some y ∧ NIn D w y #[.int .i64 y.op, .int .i64 y.ln, .string y.s, .int .i64 y.v.k, .int .i64 y.v.n, .string y.v.s, .slice va y.v.l.length c1, .slice a' y.l.length c'] ∧
      w.cell? ⟨b, o + k * 8, none⟩ = some (.int .i64 y.op) ∧ w.cell? ⟨b, o + k * 8 + 1, none⟩ = some (.int .i64 y.ln) ∧ w.cell? ⟨b, o + k * 8 + 2, none⟩ = some (.string y.s) ∧ w.cell? ⟨b, o + k * 8 + 3, none⟩ = some (.int .i64 y.v.k) ∧
      w.cell? ⟨b, o + k * 8 + 4, none⟩ = some (.int .i64 y.v.n) ∧ w.cell? ⟨b, o + k * 8 + 5, none⟩ = some (.string y.v.s) ∧ w.cell? ⟨b, o + k * 8 + 6, none⟩ = some (.slice va y.v.l.length c1) ∧ w.cell? ⟨b, o + k * 8 + 7, none⟩ = some (.slice a' y.l.length c') := by
  obtain ⟨b, o, rfl, hD, h4, hcell⟩ := hb k hk
  have hv := hi k l[k] (List.getElem?_eq_getElem hk)
  obtain ⟨va, v, e, ⟨va', c1, us1, rfl, -⟩, ⟨a', c', us', rfl, -⟩⟩ := hv.open
  rw [e] at hv hcell
  exact ⟨b, o, l[k], va', c1, a', c', rfl, hD, List.getElem?_eq_getElem hk, hv, hcell 0 (by omega), hcell 1 (by omega), hcell 2 (by omega), hcell 3 (by omega), hcell 4 (by omega), hcell 5 (by omega), hcell 6 (by omega), hcell 7 (by omega)⟩

mutual
/-- How many nodes. -/
def Nd.cnt : Nd → Nat
  | .mk _ _ _ _ l => 1 + cntL l
def cntL : List Nd → Nat
  | [] => 0
  | x :: r => Nd.cnt x + cntL r
end
mutual
/-- How deep. -/
def Nd.dep : Nd → Nat
  | .mk _ _ _ _ l => 1 + depL l
def depL : List Nd → Nat
  | [] => 0
  | x :: r => max (Nd.dep x) (depL r)
end
theorem Nd.cnt_eq (x : Nd) : x.cnt = 1 + cntL x.l := by cases x; simp [Nd.cnt, Nd.l]
theorem Nd.dep_eq (x : Nd) : x.dep = 1 + depL x.l := by cases x; simp [Nd.dep, Nd.l]
theorem cntL_take : ∀ (l : List Nd) (k : Nat) (x : Nd), l[k]? = some x → cntL (l.take (k + 1)) = cntL (l.take k) + x.cnt
  | [], k, x, h => by simp at h
  | y :: r, 0, x, h => by
    simp at h
    subst h
    simp [cntL]
  | y :: r, k + 1, x, h => by
    have := cntL_take r k x (by simpa using h)
    simp only [List.take_succ_cons, cntL, this]
    omega
theorem cntL_take_le : ∀ (l : List Nd) (k : Nat), cntL (l.take k) ≤ cntL l
  | [], k => by simp
  | y :: r, 0 => by simp [cntL]
  | y :: r, k + 1 => by
    have := cntL_take_le r k
    simp only [List.take_succ_cons, cntL]
    omega
theorem cntL_mem {l : List Nd} {k : Nat} {x : Nd} (h : l[k]? = some x) : x.cnt ≤ cntL l := by
  have h1 := cntL_take l k x h
  have h2 := cntL_take_le l (k + 1)
  omega
theorem len_le_cnt : ∀ (l : List Nd), l.length ≤ cntL l
  | [] => by simp
  | x :: r => by
    have := len_le_cnt r
    have h := Nd.cnt_eq x
    simp only [List.length_cons, cntL]
    omega
theorem depL_take : ∀ (l : List Nd) (k : Nat) (x : Nd), l[k]? = some x → depL (l.take (k + 1)) = max (depL (l.take k)) x.dep
  | [], k, x, h => by simp at h
  | y :: r, 0, x, h => by
    simp at h
    subst h
    simp [depL]
  | y :: r, k + 1, x, h => by
    have := depL_take r k x (by simpa using h)
    simp only [List.take_succ_cons, depL, this]
    omega
mutual
theorem Nd.dep_le : ∀ (x : Nd), x.dep ≤ x.cnt
  | .mk _ _ _ _ l => by
    have := depL_le' l
    simp only [Nd.dep, Nd.cnt]
    omega
theorem depL_le' : ∀ (l : List Nd), depL l ≤ cntL l
  | [] => by simp [depL]
  | x :: r => by
    have h1 := Nd.dep_le x
    have h2 := depL_le' r
    simp only [depL, cntL]
    omega
end
end
section
/-- A number's k bytes, the lowest first. -/
def leN (n k : Nat) : List UInt8 := (List.range k).map fun i => UInt8.ofNat (n / 2 ^ (8 * i))
def deN : List UInt8 → Nat
  | [] => 0
  | b :: r => b.toNat + 256 * deN r
theorem leN_len (n k : Nat) : (leN n k).length = k := by simp [leN]
theorem leN_snoc (n k : Nat) : leN n (k + 1) = leN n k ++ [UInt8.ofNat (n / 2 ^ (8 * k))] := by simp [leN, List.range_succ]
theorem deN_lt : ∀ l : List UInt8, deN l < 256 ^ l.length
  | [] => by simp [deN]
  | b :: r => by
    have h1 := deN_lt r
    have h2 := b.toNat_lt
    rw [List.length_cons, Nat.pow_succ, deN]
    omega
theorem deN_snoc : ∀ (l : List UInt8) (b : UInt8), deN (l ++ [b]) = deN l + 2 ^ (8 * l.length) * b.toNat
  | [], b => by simp [deN]
  | c :: r, b => by
    rw [List.cons_append, deN, deN_snoc r b, deN, List.length_cons, show 8 * (r.length + 1) = 8 * r.length + 8 by omega, Nat.pow_add, Nat.mul_comm (2 ^ (8 * r.length)) (2 ^ 8), Nat.mul_add, Nat.mul_assoc]
    omega
/-- A signed number's word, and back. -/
def uI (n : Int) : Nat := (n % 18446744073709551616).toNat
def sI (u : Nat) : Int := if u < 9223372036854775808 then (u : Int) else (u : Int) - 18446744073709551616
theorem uI_lt (n : Int) : uI n < 18446744073709551616 := by unfold uI; omega
def encI (n : Int) : List UInt8 := leN (uI n) 8
def encS (s : ByteArray) : List UInt8 := leN s.size 4 ++ s.data.toList
/-- A value that is no list. -/
def encV (v : V) : List UInt8 := leN (uI v.k) 1 ++ if v.k = 2 then encS v.s else encI v.n
mutual
def encN : Nd → List UInt8
  | .mk op ln s v l => leN (uI op) 1 ++ (encI ln ++ (encS s ++ (encV v ++ (leN l.length 4 ++ encNs l))))
def encNs : List Nd → List UInt8
  | [] => []
  | x :: r => encN x ++ encNs r
end
/-- A program's bytes. -/
def encL (l : List Nd) : List UInt8 := leN l.length 4 ++ encNs l
theorem encN_eq (x : Nd) : encN x = leN (uI x.op) 1 ++ (encI x.ln ++ (encS x.s ++ (encV x.v ++ encL x.l))) := by cases x; simp [encN, encL, Nd.op, Nd.ln, Nd.s, Nd.v, Nd.l]
/-- Where a reader stands, and whether nothing is amiss. -/
structure RS where
  at_ : Nat
  ok : Bool
def RS.fail (s : RS) : RS := ⟨s.at_, false⟩
variable (B : List UInt8)
def rNum (k : Nat) (s : RS) : Nat × RS := if s.ok = false ∨ B.length < s.at_ + k then (0, s.fail) else (deN ((B.drop s.at_).take k), ⟨s.at_ + k, true⟩)
def rMany (most : Int) (s : RS) : Nat × RS :=
  let r := rNum B 4 s
  if r.2.ok = false ∨ (0 ≤ most ∧ most < (r.1 : Int)) then (0, r.2.fail) else r
def rText (most : Int) (s : RS) : ByteArray × RS :=
  let r := rMany B most s
  if r.2.ok = false ∨ B.length < r.2.at_ + r.1 then (⟨#[]⟩, r.2.fail) else (⟨((B.drop r.2.at_).take r.1).toArray⟩, ⟨r.2.at_ + r.1, true⟩)
def rLoop {σ α : Type} (ok : σ → Bool) (f : σ → α × σ) : Nat → σ → List α × σ
  | 0, s => ([], s)
  | n + 1, s => if ok s = false then ([], s) else ((f s).1 :: (rLoop ok f n (f s).2).1, (rLoop ok f n (f s).2).2)
def rVal : Nat → RS → V × RS
  | 0, s => (.mk 0 0 ⟨#[]⟩ [], s.fail)
  | d + 1, s =>
    let r := rNum B 1 s
    if r.1 = 0 ∨ r.1 = 1 ∨ r.1 = 3 then (.mk r.1 (sI (rNum B 8 r.2).1) ⟨#[]⟩ [], (rNum B 8 r.2).2)
    else if r.1 = 2 then (.mk 2 0 (rText B 4096 r.2).1 [], (rText B 4096 r.2).2)
    else if r.1 = 4 then (.mk 4 0 ⟨#[]⟩ (rLoop RS.ok (rVal d) (rMany B 4096 r.2).1 (rMany B 4096 r.2).2).1, (rLoop RS.ok (rVal d) (rMany B 4096 r.2).1 (rMany B 4096 r.2).2).2)
    else (.mk r.1 0 ⟨#[]⟩ [], r.2.fail)
/-- What is left, and where it stands. -/
structure NS where
  lf : Int
  s : RS
def NS.ok (t : NS) : Bool := t.s.ok
def rNode (f : NS → List Nd × NS) (t : NS) : Nd × NS :=
  let a := rNum B 1 t.s
  let b := rNum B 8 a.2
  let c := rText B 32 b.2
  let d := rVal B 40 c.2
  let e := f ⟨t.lf - 1, d.2⟩
  (.mk a.1 (sI b.1) c.1 d.1 e.1, e.2)
def rNds : Nat → NS → List Nd × NS
  | 0, t => ([], ⟨t.lf, t.s.fail⟩)
  | d + 1, t => rLoop NS.ok (rNode B (rNds d)) (rMany B t.lf t.s).1 ⟨t.lf, (rMany B t.lf t.s).2⟩

variable {B}
/-- A value that can be laid: no list, in its bounds. -/
def fitV (v : V) : Prop := v.l = [] ∧ (((v.k = 0 ∨ v.k = 1 ∨ v.k = 3) ∧ v.s = ⟨#[]⟩ ∧ -9223372036854775808 ≤ v.n ∧ v.n < 9223372036854775808) ∨ (v.k = 2 ∧ v.n = 0 ∧ v.s.size ≤ 4096))
/-- A node that can be laid. -/
inductive FitN : Nd → Prop where
  | mk (op ln : Int) (s : ByteArray) (v : V) (l : List Nd) (h1 : 0 ≤ op ∧ op < 256) (h2 : -9223372036854775808 ≤ ln ∧ ln < 9223372036854775808) (h3 : s.size ≤ 32) (h4 : fitV v) (h5 : ∀ y ∈ l, FitN y) : FitN (.mk op ln s v l)
end
section
/-- One step of the register. -/
def zs (c : BitVec 32) : BitVec 32 := if c.getLsbD 0 then (c >>> 1) ^^^ 0xedb88320#32 else c >>> 1
theorem zs_xor (a b : BitVec 32) : zs (a ^^^ b) = zs a ^^^ zs b := by
  unfold zs
  have e : (a ^^^ b) >>> 1 = (a >>> 1) ^^^ (b >>> 1) := by
    apply BitVec.eq_of_getLsbD_eq; intro i hi; simp
  rw [BitVec.getLsbD_xor, e]
  generalize a >>> 1 = x
  generalize b >>> 1 = y
  cases ha : a.getLsbD 0 <;> cases hb : b.getLsbD 0
  · rfl
  · show x ^^^ y ^^^ 0xedb88320#32 = x ^^^ (y ^^^ 0xedb88320#32)
    ac_rfl
  · show x ^^^ y ^^^ 0xedb88320#32 = x ^^^ 0xedb88320#32 ^^^ y
    ac_rfl
  · show x ^^^ y = x ^^^ 0xedb88320#32 ^^^ (y ^^^ 0xedb88320#32)
    rw [show x ^^^ 0xedb88320#32 ^^^ (y ^^^ 0xedb88320#32) = (x ^^^ y) ^^^ (0xedb88320#32 ^^^ 0xedb88320#32) by ac_rfl, BitVec.xor_self, BitVec.xor_zero]
def it (f : BitVec 32 → BitVec 32) : Nat → BitVec 32 → BitVec 32
  | 0, c => c
  | n + 1, c => f (it f n c)
theorem it_xor (n : Nat) (a b : BitVec 32) : it zs n (a ^^^ b) = it zs n a ^^^ it zs n b := by
  induction n with
  | zero => rfl
  | succ n ih => simp only [it, ih, zs_xor]
theorem it_add (m n : Nat) (c : BitVec 32) : it zs (m + n) c = it zs m (it zs n c) := by
  induction m with
  | zero => simp [it]
  | succ m ih => rw [Nat.add_right_comm]; simp only [it, ih]
/-! The register, bit by bit. -/
def b1 (b : Bool) : BitVec 32 := if b then 1#32 else 0#32
def S (c : BitVec 32) (e : Nat → Bool) : Nat → BitVec 32
  | 0 => c
  | m + 1 => zs (S c e m ^^^ b1 (e m))
/-- The first j bits, as a word. -/
def wd (e : Nat → Bool) : Nat → BitVec 32
  | 0 => 0#32
  | j + 1 => wd e j ^^^ (if e j then 1#32 <<< j else 0#32)
/-! Three bits: by running through the places. -/
def gN (x : Nat) : Nat := if x % 2 == 1 then (x / 2) ^^^ 0xedb88320 else x / 2
def its : Nat → Nat → List Nat
  | 0, _ => []
  | n + 1, x => (x / 2) :: its n (gN x)
def dst : Nat → List Nat → Bool
  | 0, l => match l with | [] => true | [_] => true | _ => false
  | k + 1, l => match l with | [] => true | [_] => true | _ => dst k (l.filter fun x => Nat.testBit x k) && dst k (l.filter fun x => !Nat.testBit x k)
end
section
open Go.RowKit

/-- The sums of four bits. -/
def tabN (k : Nat) : Int := (it zs 4 (BitVec.ofNat 32 k)).toNat
def tabA (n : Nat) : Array Value := ((List.range 16).map fun j => if j < n then Value.int .u32 (tabN j) else .int .u32 0).toArray
theorem tabA_zero : #[.int .u32 0, .int .u32 0, .int .u32 0, .int .u32 0, .int .u32 0, .int .u32 0, .int .u32 0, .int .u32 0, .int .u32 0, .int .u32 0, .int .u32 0, .int .u32 0, .int .u32 0, .int .u32 0, .int .u32 0, .int .u32 0] = tabA 0 := by rfl
@[simp] theorem tabA_size (n : Nat) : (tabA n).size = 16 := by simp [tabA]
theorem tabA_get (n j : Nat) (h : j < 16) : (tabA n)[j]? = some (if j < n then Value.int .u32 (tabN j) else .int .u32 0) := by
  simp [tabA, h]
theorem tabA_set (k : Nat) (h : k < 16) : (tabA k).setIfInBounds k (.int .u32 (tabN k)) = tabA (k + 1) := by
  apply Array.ext_getElem?
  intro i
  by_cases hi : i < 16
  · rw [Array.getElem?_setIfInBounds, tabA_get _ i hi, tabA_get _ i hi]
    by_cases hk : k = i
    · subst hk; simp [h]
    · rw [if_neg hk]
      congr 1
      by_cases h1 : i < k
      · rw [if_pos h1, if_pos (by omega)]
      · rw [if_neg h1, if_neg (by omega)]
  · rw [Array.getElem?_eq_none (by simp; omega), Array.getElem?_eq_none (by simp; omega)]
theorem tabA_one (n : Nat) : (tabA n).all (·.oneCell') = true := by
  rw [Array.all_eq_true]
  intro i hi
  have hi' : i < 16 := by simpa using hi
  have := tabA_get n i hi'
  rw [Array.getElem?_eq_getElem hi] at this
  simp only [Option.some.injEq] at this
  rw [this]
  split <;> rfl

/-! The register's numbers as the walk spells them. -/
theorem u_xor (a b : BitVec 32) : Go.bits .xor .u32 (a.toNat : Int) (b.toNat : Int) = ((a ^^^ b).toNat : Int) := by
  rw [u32_xor_nat _ _ a.isLt b.isLt, BitVec.toNat_xor]
theorem u_and (a b : BitVec 32) : Go.bits .and .u32 (a.toNat : Int) (b.toNat : Int) = ((a &&& b).toNat : Int) := by
  rw [u32_and_nat _ _ a.isLt b.isLt, BitVec.toNat_and]
theorem u_shr (x : BitVec 32) (k : Nat) : (x.toNat : Int) / (2 ^ k : Nat) = ((x >>> k).toNat : Int) := by
  rw [BitVec.toNat_ushiftRight, Nat.shiftRight_eq_div_pow]
  simp
theorem half_step (x : BitVec 32) : bits BinOp.xor IntKind.u32 ((x.toNat : Int) / 2) (bits BinOp.and IntKind.u32 (-bits BinOp.and IntKind.u32 (x.toNat : Int) 1 % 4294967296) 3988292384) = ((zs x).toNat : Int) := by
  have e1 := u_and x 1#32
  have e2 := u_shr x 1
  rw [show ((1#32).toNat : Int) = 1 by decide] at e1
  rw [show ((2 ^ 1 : Nat) : Int) = 2 by decide] at e2
  rw [e1, e2]
  unfold zs
  by_cases hb : x.getLsbD 0 = true
  · have h1 : x &&& 1#32 = 1#32 := by
      apply BitVec.eq_of_getLsbD_eq
      intro i hi
      cases i with
      | zero => simp only [BitVec.getLsbD_and, hb]; rfl
      | succ i => simp
    rw [h1, if_pos hb]
    have e3 := u_and (4294967295#32) (0xedb88320#32)
    have e4 := u_xor (x >>> 1) (0xedb88320#32)
    rw [← e4]
    congr 1
  · have h1 : x &&& 1#32 = 0#32 := by
      apply BitVec.eq_of_getLsbD_eq
      intro i hi
      cases i with
      | zero => simp only [BitVec.getLsbD_and, Bool.eq_false_iff.2 hb]; rfl
      | succ i => simp
    rw [h1, if_neg hb]
    have e4 := u_xor (x >>> 1) (0#32)
    rw [BitVec.xor_zero] at e4
    rw [← e4]
    congr 1
theorem shl_step (y : BitVec 32) (j : Nat) (hy : ∀ i, 31 - j ≤ i → y.getLsbD i = false) : zs (y <<< (j + 1)) = y <<< j := by
  have h0 : (y <<< (j + 1)).getLsbD 0 = false := by rw [BitVec.getLsbD_shiftLeft]; simp
  unfold zs
  rw [h0]
  apply BitVec.eq_of_getLsbD_eq
  intro i hi
  simp only [Bool.false_eq_true, if_false, BitVec.getLsbD_ushiftRight, BitVec.getLsbD_shiftLeft]
  by_cases hij : i < j
  · simp [hij, show 1 + i < j + 1 by omega]
  · by_cases h31 : i = 31
    · subst h31
      rw [hy (31 - j) (by omega)]
      simp
    · simp [hij, show ¬ (1 + i < j + 1) by omega, hi, show 1 + i < 32 by omega, show 1 + i - (j + 1) = i - j by omega]
/-- Four bits at once. -/
theorem tab_step (x : BitVec 32) : bits BinOp.xor IntKind.u32 ((x.toNat : Int) / 16) (tabN (x.toNat % 16)) = ((it zs 4 x).toNat : Int) := by
  have e2 := u_shr x 4
  rw [show ((2 ^ 4 : Nat) : Int) = 16 by decide] at e2
  rw [e2]
  unfold tabN
  rw [u_xor]
  have hx : x = (x >>> 4) <<< 4 ^^^ BitVec.ofNat 32 (x.toNat % 16) := by
    apply BitVec.eq_of_getLsbD_eq
    intro i hi
    rw [BitVec.getLsbD_xor, BitVec.getLsbD_shiftLeft, BitVec.getLsbD_ushiftRight]
    have h16 : (BitVec.ofNat 32 (x.toNat % 16)).getLsbD i = (decide (i < 4) && x.getLsbD i) := by
      rw [BitVec.getLsbD_ofNat, show 16 = 2 ^ 4 from rfl, Nat.testBit_mod_two_pow]
      simp [hi]
      rfl
    rw [h16]
    by_cases h4 : i < 4
    · simp [h4]
    · simp [h4, hi]
      rw [show 4 + (i - 4) = i by omega]
      exact (BitVec.getLsbD_eq_getElem hi).symm
  have hs : it zs 4 ((x >>> 4) <<< 4) = x >>> 4 := by
    have hy : ∀ i, 28 ≤ i → (x >>> 4).getLsbD i = false := fun i hi => by rw [BitVec.getLsbD_ushiftRight]; exact BitVec.getLsbD_of_ge _ _ (by omega)
    generalize x >>> 4 = y at hy
    show zs (zs (zs (zs (y <<< 4)))) = y
    rw [shl_step y 3 (fun i hi => hy i (by omega)), shl_step y 2 (fun i hi => hy i (by omega)), shl_step y 1 (fun i hi => hy i (by omega)), shl_step y 0 (fun i hi => hy i (by omega))]
    simp
  conv => rhs; rw [hx, it_xor, hs]

theorem halves_any (w : World) : Calls Tryd.prog 76 #[] w fun e w' => e = .returned (.agg (tabA 16)) ∧ Fr (fun _ => False) w w' := by
  go_enter Tryd.func76, Tryd.ntmps76
  go_wp2_with fail
  rw [tabA_zero]
  have b0 := ((Fr.refl (fun _ => False) (w.alloc (.cells (tabA 0) 126))).alloc (.cells (tabA 0) 126)).heap (heap_alloc_new w (.cells (tabA 0) 126)) not_false
  have b1 := heap_alloc2_new w (.cells (tabA 0) 126) (.cells (tabA 0) 126)
  have bf := ((Fr.refl (fun _ => False) w).alloc (.cells (tabA 0) 126)).alloc (.cells (tabA 0) 126)
  generalize (w.alloc (.cells (tabA 0) 126)).alloc (.cells (tabA 0) 126) = W at *
  have H0 := hid b0; have H1 := hid b1; have HF := hid bf
  clear b0 b1 bf
  go_loopw [4] (fun i wr => ∃ k : Nat, k ≤ 16 ∧ i = .int .i64 k ∧ Hid (wr.heap[w.heap.size]? = some (.cells (tabA 0) 126 (0, 0))) ∧ Hid (wr.heap[w.heap.size + 1]? = some (.cells (tabA k) 126 (0, 0))) ∧ Fr (fun _ => False) w wr) (fun i _ => 16 - (intOf i).toNat)
  case atStart => exact ⟨0, by omega, rfl, H0, H1, HF.out⟩
  case round =>
    clear H0 H1 HF
    obtain ⟨k, hk, rfl, h0, h1, hf⟩ := hrel
    by_cases hlt : k < 16
    · have HF := hid hf
      clear hf
      go_wp2_with fail
      go_loop [3, 9] (fun x i => ∃ j : Nat, j ≤ 4 ∧ i = .int .i64 j ∧ x = .int .u32 ((it zs j (BitVec.ofNat 32 k)).toNat : Nat)) (fun x i => 4 - (intOf i).toNat)
      case atStart => exact ⟨0, by omega, rfl, by simp [it]; omega⟩
      case round =>
        obtain ⟨j, hj, rfl, rfl⟩ := hrel
        by_cases hlt2 : j < 4
        · have hj1 : it zs (j + 1) (BitVec.ofNat 32 k) = zs (it zs j (BitVec.ofNat 32 k)) := rfl
          generalize it zs j (BitVec.ofNat 32 k) = x at *
          have HJ := hid hj1
          clear hj1
          go_wp2_with fail
          go_round
          case rel =>
            refine ⟨j + 1, by omega, by go_num, ?_⟩
            rw [HJ.out, half_step]
          case measure => simp [intOf]; omega
        · obtain rfl : j = 4 := by omega
          have hc : wr.cell? ⟨w.heap.size + 1, k, none⟩ = some (.int .u32 0) := by rw [cell_of_row _ _ _ _ _ _ h1.out, tabA_get _ _ hlt, if_neg (by omega)]
          have hz : wr.frozen? ⟨w.heap.size + 1, k, none⟩ = false := frozen_of_row _ _ _ _ _ h1.out
          go_wp2_with fail
          go_roundw
          case rel => exact ⟨k + 1, by omega, by go_num, hid ((heap_setCell_other _ _ _ _ (by simp)).trans h0.out), hid (by
            have := setCell_row k (.int .u32 (tabN k)) h1.out
            rw [tabA_set k hlt] at this
            exact this), HF.out.setCell (.inr (by simp)) _⟩
          case measure => simp [intOf]; omega
    · obtain rfl : k = 16 := by omega
      have hlt' : decide ((16:Int) < 16) = false := by decide
      go_wp2_with (first | (refine wpList_load_row rfl 126 (.tmp 1) rfl (w.heap.size + 1) rfl 126 (tabA 16) (0, 0) _ h1.out Tryd.underlying126 rfl (by rw [tabA_size]; kernel_rfl) ?_) | (refine wpList_store_row rfl 126 (.tmp 0) (.tmp 23) rfl w.heap.size (tabA 16) rfl rfl 126 (tabA 0) h0.out (by rw [tabA_size]; kernel_rfl) (by simp) (tabA_one _) ?_))
      refine bodyPost_ret (results_cell_row rfl _ _ w.heap.size _ _ _ _ rfl (setRow_block h0.out) Tryd.underlying126 rfl (by rw [tabA_size]; kernel_rfl)) rfl ?_
      exact ⟨rfl, hf.setRow (.inr (Nat.le_refl _)) _⟩

/-! ### The sum -/
def crcB (c : BitVec 32) (b : UInt8) : BitVec 32 := it zs 8 (c ^^^ BitVec.ofNat 32 b.toNat)
def crc (c : BitVec 32) (l : List UInt8) : BitVec 32 := l.foldl crcB c
def sumB (l : List UInt8) : BitVec 32 := ~~~ (crc 4294967295#32 l)
theorem crc_take (c : BitVec 32) (l : List UInt8) (k : Nat) (h : k < l.length) : crc c (l.take (k + 1)) = crcB (crc c (l.take k)) (l.getD k 0) := by
  rw [take_snoc l k 0 h]
  simp only [crc, List.foldl_append, List.foldl_cons, List.foldl_nil]
theorem u_byte (b : UInt8) : ((b.toNat : Nat) : Int) = ((BitVec.ofNat 32 b.toNat).toNat : Int) := by
  have := b.toNat_lt
  rw [BitVec.toNat_ofNat, Nat.mod_eq_of_lt (by omega)]
theorem u_and15 (y : BitVec 32) : bits BinOp.and IntKind.u32 (y.toNat : Int) 15 = ((y.toNat % 16 : Nat) : Int) := by
  have h := u_and y 15#32
  rw [show ((15#32).toNat : Int) = 15 by decide] at h
  rw [h, BitVec.toNat_and]
  congr 1
  rw [show (15#32).toNat = 2 ^ 4 - 1 by decide, Nat.and_two_pow_sub_one_eq_mod]
theorem u_not (x : BitVec 32) : bits BinOp.xor IntKind.u32 IntKind.u32.max (x.toNat : Int) = ((~~~x).toNat : Int) := by
  have h := u_xor (BitVec.allOnes 32) x
  rw [BitVec.allOnes_xor] at h
  exact h
theorem crc_two (x : BitVec 32) (b : UInt8) : crcB x b = it zs 4 (it zs 4 (x ^^^ BitVec.ofNat 32 b.toNat)) := by
  unfold crcB
  rw [← it_add]
theorem tab_cell {W : World} {g t : Nat} {fz : Nat × Nat} (h : W.heap[g]? = some (.cells (tabA 16) t fz)) (y : BitVec 32) : W.cell? ⟨g, y.toNat % 16, none⟩ = some (.int .u32 (tabN (y.toNat % 16))) := by
  rw [cell_of_row _ _ _ _ _ _ h, tabA_get _ _ (by omega), if_pos (by omega)]

theorem sum_any (D : Nat → Prop) (v : Value) (l : List UInt8) (w : World) (hB : Bs D w v l) :
    Calls Tryd.prog 50 #[v] w fun e w' => e = .returned (.int .u32 ((sumB l).toNat : Nat)) ∧ Fr (fun _ => False) w w' := by
  obtain ⟨a, c, rfl, hlc, hcm, hk⟩ := hB
  have hm' : l.length ≤ 9223372036854775807 := Nat.le_trans hlc hcm
  have HK := hid hk
  clear hk
  go_enter Tryd.func50, Tryd.ntmps50
  go_wp2_with fail
  refine (halves_any _).mono ?_
  rintro e w1 ⟨rfl, hf1⟩
  have hr := heap_alloc_new w1 (.cells (tabA 0) 126)
  have hW := (hf1.alloc (.cells (tabA 0) 126)).setRow (.inr (show w.heap.size ≤ w1.heap.size from hf1.size)) (tabA 16)
  have hrow := setRow_block (cs := tabA 16) hr
  have HR := hid hr; have HW := hid hW; have HRow := hid hrow
  clear hf1 hr hW hrow
  rw [← tabA_zero] at HR HW HRow
  go_wp2_with (refine wpList_store_row rfl 126 (.tmp 3) (.tmp 7) rfl w1.heap.size (tabA 16) rfl rfl 126 _ HR.out (by rw [tabA_size]; kernel_rfl) (by simp) (tabA_one _) ?_)
  generalize (w1.alloc (.cells _ 126)).setRow w1.heap.size (tabA 16) = W at *
  clear HR
  generalize w1.heap.size = g at *
  go_loop [4, 10] (fun x i => ∃ k : Nat, k ≤ l.length ∧ i = .int .i64 k ∧ x = .int .u32 ((crc 4294967295#32 (l.take k)).toNat : Nat)) (fun _ i => l.length - (intOf i).toNat)
  case atStart => exact ⟨0, by omega, rfl, rfl⟩
  case round =>
    obtain ⟨k, hkl, rfl, rfl⟩ := hrel
    by_cases hlt : k < l.length
    · have hst := crc_take 4294967295#32 l k hlt
      obtain ⟨b, o, rfl, hDb, hcw⟩ := HK.out k hlt
      have hcr := HW.out.cell hcw not_false
      have hby := u_byte (l.getD k 0)
      have hb1 := (l.getD k 0).toNat_lt
      generalize l.getD k 0 = ch at *
      generalize crc 4294967295#32 (l.take k) = x at *
      have e0 : bits BinOp.xor IntKind.u32 (x.toNat : Int) (ch.toNat : Int) = ((x ^^^ BitVec.ofNat 32 ch.toNat).toNat : Int) := by rw [hby, u_xor]
      clear hby hcw
      have HS := hid hst
      clear hst
      generalize hy : x ^^^ BitVec.ofNat 32 ch.toNat = y at *
      have HY := hid hy
      clear hy
      have a1 := u_and15 y
      have l1 := tab_cell HRow.out y
      have t1 := tab_step y
      have hz : it zs 4 y = it zs 4 y := rfl
      generalize hz : it zs 4 y = z at t1
      have HZ := hid hz
      clear hz
      have m1 : y.toNat % 16 < 16 := Nat.mod_lt _ (by decide)
      have m2 : z.toNat % 16 < 16 := Nat.mod_lt _ (by decide)
      have a2 := u_and15 z
      have l2 := tab_cell HRow.out z
      have t2 := tab_step z
      generalize y.toNat % 16 = q1 at *
      generalize z.toNat % 16 = q2 at *
      go_wp2_with fail
      go_round
      case rel =>
        refine ⟨k + 1, by omega, by go_num, ?_⟩
        rw [HS.out, crc_two, HY.out, HZ.out]
      case measure => simp [intOf]; omega
    · obtain rfl : k = l.length := by omega
      rw [List.take_length]
      have hs : bits BinOp.xor IntKind.u32 IntKind.u32.max ((crc 4294967295#32 l).toNat : Int) = ((sumB l).toNat : Int) := u_not _
      have hsg : IntKind.u32.signed = false := rfl
      generalize crc 4294967295#32 l = x at *
      generalize hy : sumB l = y at hs
      have HY := hid hy
      clear hy
      go_wp2_with fail
      go_ret
      exact ⟨ret_int (by rw [HY.out]), HW.out⟩
end
section
open Go.RowKit

/-! ### Four bytes, the lowest first -/
def le4 (n : Nat) : List UInt8 := [UInt8.ofNat n, UInt8.ofNat (n / 256), UInt8.ofNat (n / 65536), UInt8.ofNat (n / 16777216)]
def n4 (l : List UInt8) : Nat := (l.getD 0 0).toNat + 256 * (l.getD 1 0).toNat + 65536 * (l.getD 2 0).toNat + 16777216 * (l.getD 3 0).toNat
@[simp] theorem le4_length (n : Nat) : (le4 n).length = 4 := rfl
theorem n4_lt (l : List UInt8) : n4 l < 4294967296 := by
  have h0 := (l.getD 0 0).toNat_lt
  have h1 := (l.getD 1 0).toNat_lt
  have h2 := (l.getD 2 0).toNat_lt
  have h3 := (l.getD 3 0).toNat_lt
  unfold n4
  omega
theorem join4 {x0 x1 x2 x3 : Nat} (b0 : x0 < 2 ^ 8) (b1 : x1 < 2 ^ 8) (b2 : x2 < 2 ^ 8) (b3 : x3 < 2 ^ 8) :
    bits BinOp.or IntKind.u32 (bits BinOp.or IntKind.u32 (bits BinOp.or IntKind.u32 (x0 : Int) ((x1 : Int) * 256)) ((x2 : Int) * 65536)) ((x3 : Int) * 16777216) = ((x0 + 256 * x1 + 65536 * x2 + 16777216 * x3 : Nat) : Int) := by
  have h : ∀ (i a b : Nat), a < 2 ^ i → a ||| b * 2 ^ i = a + b * 2 ^ i := fun i a b ha => by
    rw [Nat.or_comm, Nat.mul_comm, ← Nat.two_pow_add_eq_or_of_lt ha, Nat.add_comm]
  have h1 := h 8 x0 x1 b0
  have h2 := h 16 (x0 + x1 * 2 ^ 8) x2 (by omega)
  have h3 := h 24 (x0 + x1 * 2 ^ 8 + x2 * 2 ^ 16) x3 (by omega)
  rw [show (x1 : Int) * 256 = ((x1 * 2 ^ 8 : Nat) : Int) by omega, show (x2 : Int) * 65536 = ((x2 * 2 ^ 16 : Nat) : Int) by omega, show (x3 : Int) * 16777216 = ((x3 * 2 ^ 24 : Nat) : Int) by omega]
  rw [u32_or_nat _ _ (by omega) (by omega), h1, u32_or_nat _ _ (by omega) (by omega), h2, u32_or_nat _ _ (by omega) (by omega), h3]
  omega

theorem fnumber_any (D : Nat → Prop) (v : Value) (l : List UInt8) (w : World) (hB : Bs D w v l) (h4 : 4 ≤ l.length) :
    Calls Tryd.prog 69 #[v] w fun e w' => e = .returned (.int .u32 (n4 l : Nat)) ∧ ∃ n, w.drewN n = w' := by
  obtain ⟨a, c, rfl, hlc, hcm, hk⟩ := hB
  have hm' : l.length ≤ 9223372036854775807 := Nat.le_trans hlc hcm
  obtain ⟨b, o, rfl, _, c0⟩ := hk 0 (by omega)
  have cx : ∀ k, k < l.length → w.cell? ⟨b, o + k, none⟩ = some (.int .u8 (l.getD k 0).toNat) := fun k hk' => by
    obtain ⟨b', o', e, _, hc⟩ := hk k hk'
    simp only [Option.some.injEq, Addr.mk.injEq] at e
    obtain ⟨rfl, rfl, _⟩ := e
    exact hc
  have c1 := cx 1 (by omega)
  have c2 := cx 2 (by omega)
  have c3 := cx 3 (by omega)
  clear cx hk
  rw [Nat.add_zero] at c0
  have hn : n4 l = (l.getD 0 0).toNat + 256 * (l.getD 1 0).toNat + 65536 * (l.getD 2 0).toNat + 16777216 * (l.getD 3 0).toNat := rfl
  have b0 := (l.getD 0 0).toNat_lt
  have b1 := (l.getD 1 0).toNat_lt
  have b2 := (l.getD 2 0).toNat_lt
  have b3 := (l.getD 3 0).toNat_lt
  generalize (l.getD 0 0).toNat = x0 at *
  generalize (l.getD 1 0).toNat = x1 at *
  generalize (l.getD 2 0).toNat = x2 at *
  generalize (l.getD 3 0).toNat = x3 at *
  have HN := hid hn
  clear hn
  go_enter Tryd.func69, Tryd.ntmps69
  go_wp2_with fail
  go_quiet (fail)
  go_wp2
  go_ret
  refine ⟨ret_int ?_, _, rfl⟩
  rw [HN.out]
  exact join4 b0 b1 b2 b3
/-! ### Owned bytes -/
/-- Value v owns these bytes, in blocks from base on. -/
abbrev OB (base : Nat) (w : World) (v : Value) (l : List UInt8) : Prop := w.ownsRow base 5 1 v l.length (bV l)
theorem Tryd.info_byte : (Tryd.prog.info? 5).map (fun i => (i.zero, i.size, i.bytes)) = some (some (.int .u8 0), 1, 1) := by kernel_rfl
theorem OB.bs {base : Nat} {w : World} {v : Value} {l : List UInt8} (h : OB base w v l) : Bs (fun k => base ≤ k) w v l :=
  (Bs.own h).mono fun k _ hk => (h.lt k hk).1
theorem OB.fr {S : Nat → Prop} {a w w' : World} {v : Value} {l : List UInt8} (hf : Fr S a w) (h : OB a.heap.size w v l) (hg : Fr (fun k => some k = v.ownBlock) w w') : Fr S a w' :=
  hf.trans hg (fun _ _ h => h) fun k hk e => absurd (h.lt k e.symm).1 (by omega)

theorem le4_bV (n : Nat) (hn : n < 4294967296) : bV (le4 n) = [.int .u8 ((n : Int) % 256), .int .u8 ((n : Int) / 256 % 256), .int .u8 ((n : Int) / 65536 % 256), .int .u8 ((n : Int) / 16777216)] := by
  simp [bV, le4]
  omega

theorem little_any (base : Nat) (v : Value) (l : List UInt8) (n : Nat) (w : World) (h : OB base w v l) (hn : n < 4294967296) (hl : l.length ≤ 1073741824) (hb : base ≤ w.heap.size) :
    Calls Tryd.prog 49 #[v, .int .u32 n] w fun e w' => ∃ v', e = .returned v' ∧ OB base w' v' (l ++ le4 n) ∧ Fr (fun k => some k = v.ownBlock) w w' := by
  have hq := le4_bV n hn
  have hc : ∀ j, j < 4 → ∃ b o, (some ⟨w.heap.size, 0, none⟩ : Option Addr) = some ⟨b, o, none⟩ ∧ (w.alloc (.cells #[.int .u8 ((n : Int) % 256), .int .u8 ((n : Int) / 256 % 256), .int .u8 ((n : Int) / 65536 % 256), .int .u8 ((n : Int) / 16777216)] 5)).cell? ⟨b, o + j, none⟩ = (bV (le4 n))[j]? := by
    intro j hj
    refine ⟨_, _, rfl, ?_⟩
    rw [hq, Nat.zero_add, cell_of_row _ _ _ _ _ _ (heap_alloc_new w _)]
    simp
  have ho : (w.alloc (.cells #[.int .u8 ((n : Int) % 256), .int .u8 ((n : Int) / 256 % 256), .int .u8 ((n : Int) / 65536 % 256), .int .u8 ((n : Int) / 16777216)] 5)).ownsRow base 5 1 v l.length (bV l) := h.alloc _
  have hF := (Fr.refl (fun k => some k = v.ownBlock) w).alloc (.cells #[.int .u8 ((n : Int) % 256), .int .u8 ((n : Int) / 256 % 256), .int .u8 ((n : Int) / 65536 % 256), .int .u8 ((n : Int) / 16777216)] 5)
  have h1 : ∀ u ∈ bV (le4 n), u.oneCell' = true := by
    intro u hu
    simp only [bV, List.mem_map] at hu
    obtain ⟨_, _, rfl⟩ := hu
    rfl
  have HC := hid hc
  have HO := hid ho
  have HF := hid hF
  have H1 := hid h1
  clear hq h hc ho hF h1
  go_enter Tryd.func49, Tryd.ntmps49
  go_wp2_with (at_builtin; go_must (refine wpList_appendN rfl (.tmp 5) (.tmp 17) 41 rfl 5 (.int .u8 0) 1 Tryd.underlying41 Tryd.info_byte rfl v rfl base l.length (bV l) HO.out (some ⟨w.heap.size, 0, none⟩) 4 4 (bV (le4 n)) rfl (by simp) (fun h => by cases h) HC.out H1.out (by omega) (by decide) (by simp; omega) ?_))
  intro v' w' ho' hf' _
  have HR := hid (HF.out.trans' hf')
  have HO' := hid ho'
  clear ho' hf'
  go_wp2
  go_ret
  refine ⟨v', rfl, ?_, HR.out⟩
  have := HO'.out
  simpa [OB, bV] using this
end
section
open Go.RowKit

theorem clone_any (D : Nat → Prop) (v : Value) (l : List UInt8) (w : World) (hB : Bs D w v l) (hl : l.length ≤ 1073741824) :
    Calls Tryd.prog 41 #[v] w fun e w' => ∃ v', e = .returned v' ∧ OB w.heap.size w' v' l ∧ Fr (fun _ => False) w w' := by
  obtain ⟨a, c, rfl, hlc, hcm, hk⟩ := hB
  cases a with
  | none =>
    have h0 : l = [] := by
      cases l with
      | nil => rfl
      | cons x r => obtain ⟨_, _, e, _⟩ := hk 0 (by simp); cases e
    subst h0
    clear hk
    have hq : (binOp .eql 41 (.slice none 0 c) (.slice none 0 0)).run Tryd.prog w = .ok (.bool true) w := Lib.run_eql_slice_nil _ _ _ _ _ _ _ _ Tryd.underlying41
    go_enter Tryd.func41, Tryd.ntmps41
    go_wp2
    go_ret
    exact ⟨_, rfl, World.ownsRow_nil _ _ _ _, Fr.refl _ _⟩
  | some ad =>
    have hc : ∀ j, j < l.length → ∃ b o, (some ad : Option Addr) = some ⟨b, o, none⟩ ∧ (w.alloc (.cells #[] 5)).cell? ⟨b, o + j, none⟩ = (bV l)[j]? := fun j hj => by
      obtain ⟨b, o, e, _, hc⟩ := hk j hj
      refine ⟨b, o, e, ?_⟩
      rw [alloc_cell _ hc]
      simp [bV, List.getD, hj]
    have ho : (w.alloc (.cells #[] 5)).ownsRow w.heap.size 5 1 (.slice (some ⟨w.heap.size, 0, none⟩) 0 0) 0 [] :=
      ⟨rfl, .inr ⟨w.heap.size, 0, #[], rfl, Nat.le_refl _, heap_alloc_new w _, by simp, by simp, by simp, by simp⟩⟩
    have hF := (Fr.refl (fun _ => False) w).alloc (.cells #[] 5)
    have h1 : ∀ u ∈ bV l, u.oneCell' = true := by
      intro u hu
      simp only [bV, List.mem_map] at hu
      obtain ⟨_, _, rfl⟩ := hu
      rfl
    have HC := hid hc
    have HO := hid ho
    have HF := hid hF
    have H1 := hid h1
    clear hk hc ho hF h1
    have hq : (binOp .eql 41 (.slice (some ad) l.length c) (.slice none 0 0)).run Tryd.prog w = .ok (.bool false) w := Lib.run_eql_slice_nil _ _ _ _ _ _ _ _ Tryd.underlying41
    go_enter Tryd.func41, Tryd.ntmps41
    go_wp2_with (at_builtin; go_must (refine wpList_appendN rfl (.tmp 5) (.tmp 6) 41 rfl 5 (.int .u8 0) 1 Tryd.underlying41 Tryd.info_byte rfl (.slice (some ⟨w.heap.size, 0, none⟩) 0 0) rfl w.heap.size 0 [] HO.out (some ad) l.length c (bV l) rfl (by simp) (fun h => by cases h) HC.out H1.out (by omega) (by decide) (by simp) ?_))
    intro v' w' ho' hf' _
    have HR := hid (OB.fr (l := []) HF.out HO.out hf')
    have HO' := hid ho'
    clear ho' hf'
    go_wp2
    go_ret
    refine ⟨v', rfl, ?_, HR.out⟩
    have := HO'.out
    simpa [OB, bV] using this

theorem OB.snoc {base : Nat} {w : World} {v : Value} {l m : List UInt8} (h : w.ownsRow base 5 1 v (l.length + m.length) (bV l ++ bV m)) : OB base w v (l ++ m) := by
  simpa [OB, bV] using h

/-- What is sealed. -/
def sealB (l : List UInt8) : List UInt8 := l ++ le4 (sumB l).toNat
theorem seal_any (D : Nat → Prop) (v : Value) (l : List UInt8) (w : World) (hB : Bs D w v l) (hl : l.length ≤ 1073741824) :
    Calls Tryd.prog 28 #[v] w fun e w' => ∃ v', e = .returned v' ∧ OB w.heap.size w' v' (sealB l) ∧ Fr (fun _ => False) w w' := by
  have HB := hid hB
  clear hB
  go_enter Tryd.func28, Tryd.ntmps28
  go_wp2_with fail
  refine (clone_any D v l w HB.out hl).mono ?_
  rintro e w1 ⟨v1, rfl, ho1, hf1⟩
  have HO1 := hid ho1; have HF1 := hid hf1
  clear ho1 hf1
  go_wp2_with fail
  refine (sum_any D v l w1 (HB.out.frame HF1.out (fun _ _ => not_false))).mono ?_
  rintro e w2 ⟨rfl, hf2⟩
  have HF2 := hid hf2
  clear hf2
  go_wp2_with fail
  refine (little_any w.heap.size v1 l (sumB l).toNat w2 (HF2.out.own HO1.out (fun _ _ => not_false)) (sumB l).isLt hl (by have := HF1.out.size; have := HF2.out.size; omega)).mono ?_
  rintro e w3 ⟨v3, rfl, ho3, hf3⟩
  have HO3 := hid ho3
  have HF3 := hid (OB.fr (HF1.out.trans' HF2.out) (HF2.out.own HO1.out (fun _ _ => not_false)) hf3)
  clear ho3 hf3
  go_wp2_with fail
  go_ret
  exact ⟨_, rfl, HO3.out, HF3.out⟩

end
section
open Go.RowKit

/-- A fault with nothing around it. -/
def bareV (n : Int) : Value := .agg #[.int .i64 n, .bool false, .int .i64 0, .int .i64 0, .int .i64 0, .string ⟨#[]⟩, .slice none 0 0]
set_option maxHeartbeats 800000 in
theorem bare_any (n : Int) (w : World) : Calls Tryd.prog 26 #[.int .i64 n] w fun e w' => e = .returned (bareV n) ∧ Fr (fun _ => False) w w' := by
  go_enter Tryd.func26, Tryd.ntmps26
  go_wp2
  have hR : (w.alloc (.cells #[.int .i64 n, .bool false, .int .i64 0, .int .i64 0, .int .i64 0, .string ⟨#[]⟩, .slice none 0 0] 49)).heap[w.heap.size]? = some (.cells #[.int .i64 n, .bool false, .int .i64 0, .int .i64 0, .int .i64 0, .string ⟨#[]⟩, .slice none 0 0] 49) := heap_alloc_new w _
  refine bodyPost_ret (results_cell_row rfl _ _ w.heap.size _ _ _ _ rfl hR Tryd.underlying49 rfl (by kernel_rfl)) rfl ?_
  exact ⟨rfl, (Fr.refl _ _).alloc _⟩
set_option maxHeartbeats 800000 in
theorem none_any (w : World) : Calls Tryd.prog 34 #[] w fun e w' => e = .returned (bareV 0) ∧ Fr (fun _ => False) w w' := by
  go_enter Tryd.func34, Tryd.ntmps34
  go_wp2
  have hR : (w.alloc (.cells #[.int .i64 0, .bool false, .int .i64 0, .int .i64 0, .int .i64 0, .string ⟨#[]⟩, .slice none 0 0] 49)).heap[w.heap.size]? = some (.cells #[.int .i64 0, .bool false, .int .i64 0, .int .i64 0, .int .i64 0, .string ⟨#[]⟩, .slice none 0 0] 49) := heap_alloc_new w _
  refine bodyPost_ret (results_cell_row rfl _ _ w.heap.size _ _ _ _ rfl hR Tryd.underlying49 rfl (by kernel_rfl)) rfl ?_
  exact ⟨rfl, (Fr.refl _ _).alloc _⟩


theorem svs_nil (w : World) : Calls Tryd.prog 77 #[.slice none 0 0, .slice none 0 0] w fun e w' => e = .returned (.bool true) ∧ w = w' := by
  go_enter Tryd.func77, Tryd.ntmps77
  go_wp2
  go_loop [5] (fun i => i = .int .i64 0) (fun _ => 0)
  case atStart => rfl
  case round =>
    subst hrel
    go_wp2
    go_ret
    exact ⟨rfl, rfl⟩
def zeroV : Array Value := #[.int .i64 0, .int .i64 0, .string ⟨#[]⟩, .slice none 0 0]
theorem sv_zero (w : World) : Calls Tryd.prog 57 #[.agg #[.int .i64 0, .int .i64 0, .string ⟨#[]⟩, .slice none 0 0], .agg #[.int .i64 0, .int .i64 0, .string ⟨#[]⟩, .slice none 0 0]] w fun e w' => e = .returned (.bool true) ∧ Fr (fun _ => False) w w' := by
  go_enter Tryd.func57, Tryd.ntmps57
  go_wp2_with fail
  refine (svs_nil _).mono ?_
  rintro e w2 ⟨rfl, rfl⟩
  go_wp2
  go_ret
  exact ⟨rfl, ((Fr.refl _ _).alloc _).alloc _⟩

set_option maxHeartbeats 1600000 in
theorem samefault_num (m n : Int) (w : World) : Calls Tryd.prog 44 #[bareV m, bareV n] w fun e w' => e = .returned (.bool (decide (m = n))) ∧ Fr (fun _ => False) w w' := by
  have hd : decide (m = n) = (m == n) := by
    rw [Bool.eq_iff_iff]
    simp
  have HD := hid hd
  clear hd
  unfold bareV
  go_enter Tryd.func44, Tryd.ntmps44
  go_wp2_with fail
  refine (sv_zero _).mono ?_
  rintro e w2 ⟨rfl, hf2⟩
  have hF : ∀ o1 o2 : Obj, Fr (fun _ => False) w ((w.alloc o1).alloc o2) := fun o1 o2 => ((Fr.refl _ _).alloc _).alloc _
  have h1 := hf2.heap (k := w.heap.size) (((Fr.refl (fun _ => False) _).alloc _).heap (heap_alloc_new w (.cells #[.int .i64 m, .bool false, .int .i64 0, .int .i64 0, .int .i64 0, .string ⟨#[]⟩, .slice none 0 0] 49)) not_false) not_false
  have h2 := hf2.heap (k := w.heap.size + 1) (o := .cells #[.int .i64 n, .bool false, .int .i64 0, .int .i64 0, .int .i64 0, .string ⟨#[]⟩, .slice none 0 0] 49) (by
    have := heap_alloc_new (w.alloc (.cells #[.int .i64 m, .bool false, .int .i64 0, .int .i64 0, .int .i64 0, .string ⟨#[]⟩, .slice none 0 0] 49)) (.cells #[.int .i64 n, .bool false, .int .i64 0, .int .i64 0, .int .i64 0, .string ⟨#[]⟩, .slice none 0 0] 49)
    simpa using this) not_false
  have x0 : w2.cell? ⟨w.heap.size, 0, none⟩ = some (.int .i64 m) := by rw [cell_of_row _ _ 0 _ _ _ h1]; rfl
  have x1 : w2.cell? ⟨w.heap.size, 1, none⟩ = some (.bool false) := by rw [cell_of_row _ _ 1 _ _ _ h1]; rfl
  have x2 : w2.cell? ⟨w.heap.size, 2, none⟩ = some (.int .i64 0) := by rw [cell_of_row _ _ 2 _ _ _ h1]; rfl
  have y0 : w2.cell? ⟨w.heap.size + 1, 0, none⟩ = some (.int .i64 n) := by rw [cell_of_row _ _ 0 _ _ _ h2]; rfl
  have y1 : w2.cell? ⟨w.heap.size + 1, 1, none⟩ = some (.bool false) := by rw [cell_of_row _ _ 1 _ _ _ h2]; rfl
  have y2 : w2.cell? ⟨w.heap.size + 1, 2, none⟩ = some (.int .i64 0) := by rw [cell_of_row _ _ 2 _ _ _ h2]; rfl
  have HF := hid ((hF _ _).trans' hf2)
  clear h1 h2 hf2 hF
  cases hmn : (m == n) with
  | false =>
    rw [hmn] at HD
    go_wp2
    go_ret
    exact ⟨ret_bool HD.out.symm, HF.out⟩
  | true =>
    rw [hmn] at HD
    go_wp2
    go_ret
    exact ⟨ret_bool HD.out.symm, HF.out⟩
end
end Go.Proofs.YtbegahbagnflnaaDoor
