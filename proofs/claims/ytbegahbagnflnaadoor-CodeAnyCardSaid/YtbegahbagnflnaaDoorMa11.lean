/- TreeG, TreeH, TreeI, TreeJ, DocA: several texts in one: a claim has at most 60 files -/
import Derived.Test.YtbegahbagnflnaaDoorMa06
import Derived.Deep.CutBlock
set_option linter.unusedSimpArgs false
set_option linter.unusedVariables false
set_option linter.unnecessarySimpa false
namespace Go.Proofs.YtbegahbagnflnaaDoor
section
open Go.RowKit

theorem pOwn_cases (x : Nd) (role : Int) (loop : Bool) : (pOwn x role loop = 0 ∧ pCounts x.op x.l.length = true) ∨ pOwn x role loop = 103 ∨ pOwn x role loop = 106 := by
  unfold pOwn
  cases h : pCounts x.op x.l.length
  · rw [if_pos (by simp [ownBad])]
    exact .inr (.inl rfl)
  · split
    · exact .inr (.inl rfl)
    split
    · exact .inr (.inr rfl)
    exact .inl ⟨rfl, rfl⟩
theorem rW_range {role op : Int} {i : Nat} {r : Int} (h0 : 0 ≤ r) (h8 : r ≤ 8) : 0 ≤ rW role op i r ∧ rW role op i r ≤ 8 := by
  unfold rW
  split
  · omega
  split
  · omega
  split <;> omega
def RangeOk (l : List Int) : Prop := ∀ r ∈ l, 0 ≤ r ∧ r ≤ 8
theorem RangeOk.ite {c : Prop} [Decidable c] {a b : List Int} (ha : RangeOk a) (hb : RangeOk b) : RangeOk (if c then a else b) := by
  split
  · exact ha
  · exact hb
theorem RangeOk.rep (n : Nat) {a : Int} (h0 : 0 ≤ a) (h8 : a ≤ 8) : RangeOk (List.replicate n a) := fun r hr => by rw [(List.mem_replicate.1 hr).2]; exact ⟨h0, h8⟩
theorem RangeOk.append {a b : List Int} (ha : RangeOk a) (hb : RangeOk b) : RangeOk (a ++ b) := fun r hr => (List.mem_append.1 hr).elim (ha r) (hb r)
theorem RangeOk.set {a : List Int} (ha : RangeOk a) (i : Nat) {x : Int} (h0 : 0 ≤ x) (h8 : x ≤ 8) : RangeOk (a.set i x) := fun r hr => (List.mem_or_eq_of_mem_set hr).elim (ha r) fun e => by rw [e]; exact ⟨h0, h8⟩
theorem RangeOk.take {a : List Int} (ha : RangeOk a) (n : Nat) : RangeOk (a.take n) := fun r hr => ha r (List.mem_of_mem_take hr)
theorem RangeOk.ifK (n : Nat) : RangeOk (ifK n) := fun r hr => by
  obtain ⟨i, -, rfl⟩ := List.mem_map.1 hr
  split <;> omega
theorem RangeOk.nil : RangeOk [] := fun r hr => by cases hr
theorem RangeOk.cons {a : Int} {l : List Int} (h0 : 0 ≤ a) (h8 : a ≤ 8) (h : RangeOk l) : RangeOk (a :: l) := fun r hr => by
  rcases List.mem_cons.1 hr with rfl | h'
  · exact ⟨h0, h8⟩
  · exact h r h'
theorem pRoles_range (op : Int) (n : Nat) : RangeOk (pRoles op n) := by
  unfold pRoles ifL
  repeat' first | exact RangeOk.nil | exact RangeOk.ifK _ | refine RangeOk.ite ?_ ?_ | refine RangeOk.rep _ (by decide) (by decide) | refine RangeOk.append ?_ ?_ | refine RangeOk.set ?_ _ (by decide) (by decide) | refine RangeOk.take ?_ _ | refine RangeOk.cons (by decide) (by decide) ?_
end
section
open Go.RowKit

def okC (n : Nat) : Prop := n = 0 ∨ n = 103 ∨ n = 106
mutual
theorem pWalk_code : ∀ (x : Nd) (role : Int) (loop : Bool), okC (pWalk x role loop).1
  | .mk op ln s v l, role, loop => by
    rw [pWalk]
    split
    · exact pWalkL_code l _ _ _ _ _
    · rcases pOwn_cases (.mk op ln s v l) role loop with ⟨h, -⟩ | h | h
      · exact .inl h
      · exact .inr (.inl h)
      · exact .inr (.inr h)
theorem pWalkL_code : ∀ (l : List Nd) (op role : Int) (loop : Bool) (R : List Int) (i : Nat), okC (pWalkL op role loop R i l).1
  | [], op, role, loop, R, i => by rw [pWalkL]; exact .inl rfl
  | y :: r, op, role, loop, R, i => by
    rw [pWalkL]
    split
    · exact pWalkL_code r _ _ _ _ _
    · exact pWalk_code y _ _
end
/-- What is first amiss with nodes that stand where something has to. -/
def pVals (role : Int) : List Nd → Nat × Int
  | [] => (0, 0)
  | y :: r => if (pWalk y role false).1 = 0 then pVals role r else pWalk y role false
theorem pVals_step {role : Int} {l : List Nd} {k : Nat} {y : Nd} (h : l[k]? = some y) : pVals role (l.drop k) = if (pWalk y role false).1 = 0 then pVals role (l.drop (k + 1)) else pWalk y role false := by
  rw [drop_at h, pVals]

/-- A fault: its number (0: none), whether it has a place, the place. -/
structure Flt where
  c : Nat
  p : Bool
  l : Int
def fltAt (q : Nat × Int) : Flt := if q.1 = 0 then ⟨0, false, 0⟩ else ⟨q.1, true, q.2⟩
/-- How a fault lies in the world as an error. -/
def ErrIs (pa : Nat → Addr) (w : World) (f : Flt) (v : Value) : Prop :=
  ErrNo f.c ∧ ((f.p = false ∧ f.l = 0 ∧ v = errV pa f.c) ∨ (f.p = true ∧ f.c ≠ 0 ∧ ∃ b, v = .iface 121 (.pointer (some ⟨b, 0, none⟩)) ∧ w.heap[b]? = some (.cells #[.int .i64 f.l, errV pa f.c] 124)))
theorem ErrIs.frame {pa : Nat → Addr} {w w' : World} {f : Flt} {v : Value} (h : ErrIs pa w f v) (hf : Fr (fun _ => False) w w') : ErrIs pa w' f v := by
  obtain ⟨h1, h2 | ⟨h2, h3, b, e, hb⟩⟩ := h
  · exact ⟨h1, .inl h2⟩
  · exact ⟨h1, .inr ⟨h2, h3, b, e, hf.heap hb not_false⟩⟩
theorem AtV.err {pa : Nat → Addr} {w : World} {q : Nat × Int} {v : Value} (h : AtV pa w q v) (hc : okC q.1) : ErrIs pa w (fltAt q) v := by
  rcases h with ⟨h, rfl⟩ | ⟨h, b, e, hb⟩
  · rw [fltAt, if_pos h]
    exact ⟨.inl rfl, .inl ⟨rfl, rfl, rfl⟩⟩
  · rw [fltAt, if_neg h]
    refine ⟨?_, .inr ⟨rfl, h, b, e, hb⟩⟩
    rcases hc with hc | hc | hc
    · exact absurd hc h
    · exact .inr (by simp only [hc]; omega)
    · exact .inr (by simp only [hc]; omega)
/-- What valid tells. -/
def pValid (l : List Nd) (role : Int) : Flt := if 4096 < cntL l then ⟨104, false, 0⟩ else if 40 < depL l then ⟨112, false, 0⟩ else fltAt (pVals role l)
end
section
open Go.RowKit

end
section
open Go.RowKit

def v0 : V := .mk 0 0 ⟨#[]⟩ []
/-- A node with an Op, and what it has. -/
def nd0 (op : Int) (l : List Nd) : Nd := .mk op 0 ⟨#[]⟩ v0 l
/-- Its cells. -/
def nU (op : Int) (la : Value) : Array Value := #[.int .i64 op, .int .i64 0, .string ⟨#[]⟩, .int .i64 0, .int .i64 0, .string ⟨#[]⟩, .slice none 0 0, la]
def oneN : Nd := .mk 1 0 ⟨#[]⟩ (.mk 0 1 ⟨#[]⟩ []) []
def blkN (l : List Nd) : Nd := nd0 52 l
def wrapN (c : Int) (n : Nd) : Nd :=
  if c = 0 then nd0 44 [oneN, blkN [n]] else if c = 1 then nd0 48 [oneN, blkN [n]] else if c = 2 then nd0 41 [oneN, blkN [n]] else if c = 3 then nd0 51 [blkN [n], blkN []] else nd0 49 [blkN [n], nd0 50 [nd0 25 [], blkN []]]
def stL (c : Int) (lp : Bool) : Bool := if c = 0 then true else if c = 1 then false else lp
/-- The tree of these, about a node. -/
def treeN (cs : List Int) (n : Nd) : Nd := cs.foldl (fun n c => wrapN c n) n
def loopB (cs : List Int) : Bool := cs.foldr stL false
def doneB (cs : List Int) : Bool := cs.any fun c => c == 0 || c == 1
end
section
open Go.RowKit

/-- The document's number of a place. -/
def plc (role : Int) : Int := if role = 7 then 9 else if role = 8 then 8 else role + 1
/-- The document's counts. -/
def dCounts (op : Int) (n : Nat) : Bool :=
  if op = 1 ∨ op = 2 ∨ op = 45 ∨ op = 46 then decide (n = 0) else if op = 3 ∨ op = 4 ∨ op = 26 ∨ op = 40 then decide (n = 1) else if op = 19 ∨ op = 21 ∨ op = 43 then decide (n = 3) else if op = 23 ∨ op = 28 ∨ op = 41 ∨ op = 49 then decide (2 ≤ n)
  else if op = 24 ∨ op = 25 ∨ op = 52 then true else if op = 29 then decide (n = 2) || decide (n = 3) else if op = 47 then decide (n ≤ 1) else decide (n = 2)
/-- The document's place. -/
def dPlace (op : Int) (n : Nat) (own : Int) (i : Nat) : Int :=
  if op = 23 then (if 2 ≤ i then 2 else 1) else if op = 24 then 2 else if op = 25 then (if own ≠ 6 then 2 else 1) else if op = 26 then (if own = 5 then 4 else 1) else if op = 20 then (if own = 3 ∧ i = 0 then 3 else 1)
  else if op = 27 then (if i = 0 then 3 else 1) else if op = 28 then (if (i : Int) = n - 2 then 5 else if (i : Int) < n - 2 then 4 else 1) else if op = 29 then (if i = 1 then 6 else 1) else if op = 50 then (if i = 0 then 6 else 7)
  else if op = 41 then (if i % 2 = 1 ∨ (i : Int) = n - 1 then 7 else 1) else if op = 42 ∨ op = 48 ∨ op = 44 ∨ op = 43 then (if (i : Int) = n - 1 then 7 else 1) else if op = 49 then (if 0 < i then 8 else 7) else if op = 51 then 7 else if op = 52 then 9 else 1
end
end Go.Proofs.YtbegahbagnflnaaDoor
