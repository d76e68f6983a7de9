/- FrameB, FrameC, FrameD, RdA, RdP, RdB: several texts in one: a claim has at most 60 files -/
import Derived.Test.YtbegahbagnflnaaGreatDoorMm21
import Derived.Test.YtbegahbagnflnaaGreatDoorMm07
import Derived.Test.YtbegahbagnflnaaGreatDoorMm08
set_option linter.unusedSimpArgs false
set_option linter.unusedVariables false
set_option linter.unnecessarySimpa false
namespace Go.Proofs.YtbegahbagnflnaaGreatDoor
section
open Go.RowKit

/-! ### Four bytes, the lowest first -/
def le4 (n : Nat) : List UInt8 := [UInt8.ofNat n, UInt8.ofNat (n / 256), UInt8.ofNat (n / 65536), UInt8.ofNat (n / 16777216)]
def n4 (l : List UInt8) : Nat := (l.getD 0 0).toNat + 256 * (l.getD 1 0).toNat + 65536 * (l.getD 2 0).toNat + 16777216 * (l.getD 3 0).toNat
@[simp] theorem le4_length (n : Nat) : (le4 n).length = 4 := rfl
/-! ### Owned bytes -/
/-- Value v owns these bytes, in blocks from base on. -/
abbrev OB (base : Nat) (w : World) (v : Value) (l : List UInt8) : Prop := w.ownsRow base 5 1 v l.length (bV l)
theorem OB.fr {S : Nat → Prop} {a w w' : World} {v : Value} {l : List UInt8} (hf : Fr S a w) (h : OB a.heap.size w v l) (hg : Fr (fun k => some k = v.ownBlock) w w') : Fr S a w' :=
  hf.trans hg (fun _ _ h => h) fun k hk e => absurd (h.lt k e.symm).1 (by omega)

end
section
open Go.RowKit

theorem OB.snoc {base : Nat} {w : World} {v : Value} {l m : List UInt8} (h : w.ownsRow base 5 1 v (l.length + m.length) (bV l ++ bV m)) : OB base w v (l ++ m) := by
  simpa [OB, bV] using h

/-- What is sealed. -/
def sealB (l : List UInt8) : List UInt8 := l ++ le4 (sumB l).toNat
end
section
open Go.RowKit

/-- What stands ahead of a sum, or the error's number. -/
def openB (l : List UInt8) : List UInt8 × Nat :=
  if l.length < 4 then ([], 101) else if n4 (l.drop (l.length - 4)) = (sumB (l.take (l.length - 4))).toNat then (l.take (l.length - 4), 0) else ([], 102)

theorem Bs.from {D : Nat → Prop} {w : World} {b o c : Nat} {l : List UInt8} (h : Bs D w (.slice (some ⟨b, o, none⟩) l.length c) l) (i : Nat) (hi : i < l.length) : Bs D w (.slice (some ⟨b, o + i, none⟩) (l.length - i) (c - i)) (l.drop i) := by
  have h0 := h
  obtain ⟨a0, c0, e, h1, h2, _⟩ := h0
  simp only [Value.slice.injEq] at e
  obtain ⟨rfl, _, rfl⟩ := e
  have := Bs.sub (a' := some ⟨b, o + i, none⟩) (c' := c - i) (len' := l.length - i) h i l.length (by omega) (Nat.le_refl _) rfl rfl (by rw [if_neg (by omega)]; simp only [Option.map_some]; exact congrArg some (by unfold Addr.add; split <;> simp_all))
  rwa [List.take_length] at this
theorem Bs.upto {D : Nat → Prop} {w : World} {a : Option Addr} {c : Nat} {l : List UInt8} (h : Bs D w (.slice a l.length c) l) (i : Nat) (hi : i ≤ l.length) : Bs D w (.slice a i c) (l.take i) := by
  obtain ⟨a0, c0, e, h1, h2, hk⟩ := h
  simp only [Value.slice.injEq] at e
  obtain ⟨rfl, _, rfl⟩ := e
  refine ⟨a, c, by simp [Nat.min_eq_left hi], by simp; omega, h2, fun k hk' => ?_⟩
  have hki : k < i := by simp at hk'; omega
  obtain ⟨b, o, e, hD, hc⟩ := hk k (by omega)
  refine ⟨b, o, e, hD, ?_⟩
  rw [hc]
  simp [List.getD, List.getElem?_take, hki]

end
section
open Go.RowKit

/-- Behind the variables of the errors. -/
def sentB : Nat := sentG.foldl max 0 + 1
theorem sent_lt : ∀ i, i < 17 → sentG.getD i 0 < sentB := by decide
/-- A reader in memory. -/
def RdAt (w : World) (R : Nat) (B : List UInt8) (s : RS) : Prop :=
  (sentB ≤ R ∧ s.at_ ≤ B.length ∧ B.length ≤ 1073741824) ∧ ∃ bv ev, w.heap[R]? = some (.cells #[bv, .int .i64 (s.at_ : Int), ev] 72 (0, 0)) ∧ Bs (fun k => k < R) w bv B ∧ ((s.ok = true ∧ ev = .nilIface) ∨ (s.ok = false ∧ ∃ t x, ev = .iface t x))
theorem RdAt.frame {w w' : World} {R : Nat} {B : List UInt8} {s : RS} (h : RdAt w R B s) (hf : Fr (fun _ => False) w w') : RdAt w' R B s := by
  obtain ⟨h0, bv, ev, h1, h2, h3⟩ := h
  exact ⟨h0, bv, ev, hf.heap h1 not_false, h2.frame hf fun _ _ => not_false, h3⟩
theorem RdAt.other {S : Nat → Prop} {w w' : World} {R : Nat} {B : List UInt8} {s : RS} (h : RdAt w R B s) (hf : Fr S w w') (hS : ∀ k, k ≤ R → ¬ S k) : RdAt w' R B s := by
  obtain ⟨h0, bv, ev, h1, h2, h3⟩ := h
  exact ⟨h0, bv, ev, hf.heap h1 (hS R (Nat.le_refl _)), h2.frame hf fun k hk => hS k (Nat.le_of_lt hk), h3⟩
theorem Sents.at_ {w w' : World} {pa : Nat → Addr} {R : Nat} (h : Sents w pa) (hf : Fr (fun k => k = R) w w') (hR : sentB ≤ R) : Sents w' pa := fun i hi => hf.cell (h i hi) (by have := sent_lt i hi; show ¬ sentG.getD i 0 = R; omega)
end
section
variable {B : List UInt8}

/-- A reader goes on. -/
def GoOn (B : List UInt8) (s s' : RS) : Prop := s.at_ ≤ s'.at_ ∧ s'.at_ ≤ B.length ∧ (s'.ok = true → s.ok = true)
theorem GoOn.refl {s : RS} (h : s.at_ ≤ B.length) : GoOn B s s := ⟨Nat.le_refl _, h, id⟩
theorem GoOn.trans {a b c : RS} (h : GoOn B a b) (k : GoOn B b c) : GoOn B a c := ⟨Nat.le_trans h.1 k.1, k.2.1, fun x => h.2.2 (k.2.2 x)⟩
theorem GoOn.fail {a b : RS} (h : GoOn B a b) : GoOn B a b.fail := ⟨h.1, h.2.1, (fun x => by cases x)⟩
/-- What is left sinks by as much as is read, and one. -/
def LfOn (t t' : NS) : Prop := t'.lf ≤ t.lf ∧ t.lf + t.s.at_ ≤ t'.lf + t'.s.at_ + (if t.s.ok = true ∧ t'.s.ok = false then 1 else 0)
theorem LfOn.trans {a b c : NS} (g1 : b.s.ok = true → a.s.ok = true) (g2 : c.s.ok = true → b.s.ok = true) (h : LfOn a b) (k : LfOn b c) : LfOn a c := by
  obtain ⟨h1, h2⟩ := h
  obtain ⟨k1, k2⟩ := k
  refine ⟨by omega, ?_⟩
  revert h2 k2 g1 g2
  cases a.s.ok <;> cases b.s.ok <;> cases c.s.ok <;> simp <;> omega
def NdsGo (B : List UInt8) (f : NS → List Nd × NS) : Prop := ∀ t : NS, t.s.at_ ≤ B.length → GoOn B t.s (f t).2.s ∧ LfOn t (f t).2 ∧ ((f t).2.s.ok = true → szL (f t).1 + t.s.at_ ≤ (f t).2.s.at_)
end
section
open Go.RowKit

end
end Go.Proofs.YtbegahbagnflnaaGreatDoor
