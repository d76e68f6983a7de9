/- RdC, RdD, Enc: several texts in one: a claim has at most 60 files -/
import Derived.Test.YtbegahbagnflnaaGreatDoorMm22
import Derived.Test.YtbegahbagnflnaaGreatDoorMm05
import Derived.Test.YtbegahbagnflnaaGreatDoorMm12
import Derived.Test.YtbegahbagnflnaaGreatDoorMm13
import Derived.Test.YtbegahbagnflnaaGreatDoorMm21
import Derived.Lib.AppendStr
set_option linter.unusedSimpArgs false
set_option linter.unusedVariables false
set_option linter.unnecessarySimpa false
namespace Go.Proofs.YtbegahbagnflnaaGreatDoor
section
open Go.RowKit

theorem VOwn.fr {e base : Nat} {S : Nat → Prop} {w w' : World} {l : List V} {v : Value} (h : VOwn e base w l v) (hf : Fr S w w') (hS : ∀ k, base ≤ k → ¬ S k) : VOwn e base w' l v := by
  obtain ⟨xs, ho, hx⟩ := h
  refine ⟨xs, hf.own ho (fun k hk => hS k (ho.lt k hk).1), fun i x hi => ?_⟩
  obtain ⟨u, hv, r⟩ := hx i x hi
  exact ⟨u, (hv.frame hf fun k hk => hS k hk.1).mono fun k _ hk => ⟨hk.1, Nat.lt_of_lt_of_le hk.2.1 hf.size, hk.2.2.1, hf.soft hk.2.1 (hS k hk.1) hk.2.2.2⟩, r⟩
theorem RdAt.lt {w : World} {R : Nat} {B : List UInt8} {s : RS} (h : RdAt w R B s) : R < w.heap.size := by
  obtain ⟨-, bv, ev, h1, -⟩ := h
  exact heap_lt h1
/-- The contract of Value, so many levels ahead of the end. -/
def ValTo (d : Nat) : Prop := ∀ (B : List UInt8) (s : RS) (R : Nat) (pa : Nat → Addr) (w : World), RdAt w R B s → Sents w pa →
  Calls Tryz.prog 89 #[.pointer (some ⟨R, 0, none⟩), .int .i64 (41 - d)] w fun e w' => ∃ u, e = .returned (.agg u) ∧ VIn (fun b => w.heap.size ≤ b ∧ Soft w' b) w' (rVal B d s).1 u ∧ RdAt w' R B (rVal B d s).2 ∧ Fr (fun k => k = R) w w'
end
section
open Go.RowKit

theorem NOwn.fr {e base : Nat} {S : Nat → Prop} {w w' : World} {l : List Nd} {v : Value} (h : NOwn e base w l v) (hf : Fr S w w') (hS : ∀ k, base ≤ k → ¬ S k) : NOwn e base w' l v := by
  obtain ⟨xs, ho, hx⟩ := h
  refine ⟨xs, hf.own ho (fun k hk => hS k (ho.lt k hk).1), fun i x hi => ?_⟩
  obtain ⟨u, hv, r⟩ := hx i x hi
  exact ⟨u, (hv.frame hf fun k hk => hS k hk.1).mono fun k _ hk => ⟨hk.1, Nat.lt_of_lt_of_le hk.2.1 hf.size, hk.2.2.1, hf.soft hk.2.1 (hS k hk.1) hk.2.2.2⟩, r⟩
/-- What is left is in its bounds. -/
def LfOk (t : NS) : Prop := t.lf ≤ 4096 ∧ 0 ≤ t.lf + t.s.at_ + (if t.s.ok = true then 0 else 1)
theorem LfOk.on {t t' : NS} (h : LfOk t) (hf : LfOn t t') (hg : t'.s.ok = true → t.s.ok = true) : LfOk t' := by
  obtain ⟨h1, h2⟩ := h
  obtain ⟨k1, k2⟩ := hf
  refine ⟨by omega, ?_⟩
  revert h2 k2 hg
  cases t.s.ok <;> cases t'.s.ok <;> simp <;> omega
/-- The contract of nodes, so many levels ahead of the end. -/
def NdsTo (d : Nat) : Prop := ∀ (B : List UInt8) (t : NS) (R Lf : Nat) (pa : Nat → Addr) (w : World), RdAt w R B t.s → Sents w pa → R < Lf → w.heap[Lf]? = some (.cells #[.int .i64 t.lf] 3 (0, 0)) → LfOk t →
  Calls Tryz.prog 61 #[.pointer (some ⟨R, 0, none⟩), .int .i64 (42 - d), .pointer (some ⟨Lf, 0, none⟩)] w fun e w' => ∃ v, e = .returned v ∧ NL (fun b => w.heap.size ≤ b ∧ Soft w' b) w' (rNds B d t).1 v ∧ RdAt w' R B (rNds B d t).2.s ∧
    w'.heap[Lf]? = some (.cells #[.int .i64 (rNds B d t).2.lf] 3 (0, 0)) ∧ Fr (fun k => k = R ∨ k = Lf) w w'
theorem NL.soft {B : Nat → Prop} {S : Nat → Prop} {w w' : World} {l : List Nd} {v : Value} (h : NL (fun b => B b ∧ Soft w b) w l v) (hf : Fr S w w') (hS : ∀ k, B k → ¬ S k) : NL (fun b => B b ∧ Soft w' b) w' l v := by
  have := (h.close 0 0 ⟨#[]⟩ (.mk 0 0 ⟨#[]⟩ []) (VL.nil _ w)).soft hf hS
  obtain ⟨va, v', e, -, h'⟩ := this.open
  obtain rfl : v' = v := by simpa using (congrArg (fun q => q.getD 7 undef) e).symm
  exact h'
theorem VL.soft {B : Nat → Prop} {S : Nat → Prop} {w w' : World} {l : List V} {v : Value} (h : VL (fun b => B b ∧ Soft w b) w l v) (hf : Fr S w w') (hS : ∀ k, B k → ¬ S k) : VL (fun b => B b ∧ Soft w' b) w' l v := by
  have := ((h.close 0 0 ⟨#[]⟩).soft hf hS).open
  obtain ⟨v', e, h'⟩ := this
  obtain rfl : v' = v := by simpa using (congrArg (fun q => q.getD 3 undef) e).symm
  exact h'
end
section
open Go.RowKit

/-- A row of bytes grown: it lies where it lay, or in a new block. -/
def OBx (base : Nat) (w0 : World) (v0 : Value) (w : World) (v : Value) (l : List UInt8) : Prop :=
  OB base w v l ∧ Fr (fun k => some k = v0.ownBlock) w0 w ∧ ∀ k, v.ownBlock = some k → v0.ownBlock = some k ∨ w0.heap.size ≤ k
theorem OBx.trans {base : Nat} {w0 w1 w2 : World} {v0 v1 v2 : Value} {l m : List UInt8} (h : OBx base w0 v0 w1 v1 l) (k : OBx base w1 v1 w2 v2 m) : OBx base w0 v0 w2 v2 m :=
  ⟨k.1, h.2.1.trans k.2.1 (fun _ _ h => h) (fun r hr e => (h.2.2 r e.symm).elim (fun e => e.symm) fun h => absurd hr (by omega)),
   fun r hr => (k.2.2 r hr).elim (h.2.2 r) fun hk => .inr (Nat.le_trans h.2.1.size hk)⟩
theorem OBx.refl {base : Nat} {w : World} {v : Value} {l : List UInt8} (h : OB base w v l) : OBx base w v w v l := ⟨h, Fr.refl _ _, fun k hk => .inl hk⟩
theorem OBx.of {base n : Nat} {w0 w : World} {v0 v : Value} {l m : List UInt8} (h : w.ownsRow base 5 1 v n (bV l ++ bV m)) (hn : n = l.length + m.length) (hf : Fr (fun k => some k = v0.ownBlock) w0 w) (hk : ∀ k, v.ownBlock = some k → v0.ownBlock = some k ∨ w0.heap.size ≤ k) : OBx base w0 v0 w v (l ++ m) :=
  ⟨OB.snoc (by rw [← hn]; exact h), hf, hk⟩
end
end Go.Proofs.YtbegahbagnflnaaGreatDoor
