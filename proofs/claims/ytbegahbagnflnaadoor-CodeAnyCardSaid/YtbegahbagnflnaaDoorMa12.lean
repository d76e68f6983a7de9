/- Rising, DocB, DocD, DocE, DocC: several texts in one: a claim has at most 60 files -/
import Derived.Test.YtbegahbagnflnaaDoorMa04
import Derived.Test.YtbegahbagnflnaaDoorRegion
import Derived.Deep.CutRange
import Derived.Test.YtbegahbagnflnaaDoorMa06
import Derived.Test.YtbegahbagnflnaaDoorMa02
import Derived.Test.YtbegahbagnflnaaDoorMa11
import Derived.Test.YtbegahbagnflnaaDoorMa01
set_option linter.unusedSimpArgs false
set_option linter.unusedVariables false
set_option linter.unnecessarySimpa false
namespace Go.Proofs.YtbegahbagnflnaaDoor
section
open Go.RowKit

/-- Is a text before another one? -/
def bf : List UInt8 → List UInt8 → Bool
  | [], b => !b.isEmpty
  | _ :: _, [] => false
  | x :: r, y :: t => if x = y then bf r t else decide (x.toNat < y.toNat)
/-- With one laid in. -/
def insT (L : List ByteArray) (q : Nat) (y : ByteArray) : List ByteArray := L.take q ++ [y] ++ L.drop q
/-- Strictly rising. -/
def StrictT (L : List ByteArray) : Prop := L.Pairwise fun a b => bf a.data.toList b.data.toList = true
end
section
open Go.RowKit

def digc (c : Nat) : Bool := decide (48 ≤ c) && decide (c ≤ 57)
end
section
open Go.RowKit

/-- The document's named. -/
def dNamed (op : Int) (s : ByteArray) : Int :=
  if op = 2 ∨ op = 24 ∨ op = 42 ∨ op = 43 then (if pName s then 0 else 1) else if op = 50 then (if s.toList.isEmpty = false ∧ pName s = false then 1 else 0) else if s.toList.isEmpty = false then 2 else 0
end
section
open Go.RowKit

theorem ifK_getD (n i : Nat) (h : i < n) : (ifK n).getD i 0 = if i % 2 = 0 then 0 else 6 := by
  simp [ifK, List.getD, List.getElem?_map, List.getElem?_range h]
/-- Is a node amiss, as the document asks it? -/
def awayB (op : Int) (loop : Bool) : Bool := (op == 45 || op == 46) && !loop
def oBad (st cn fv : Bool) (nm : Int) (aw : Bool) : Bool := !st || !cn || !fv || nm == 2 || aw
/-- A loop's flag, as the document gives it to all that a node has. -/
def dLoop (op : Int) (loop : Bool) : Bool := if op = 42 ∨ op = 43 ∨ op = 44 then true else if op = 48 then false else loop
def RangeOk5 (l : List Int) : Prop := ∀ r ∈ l, 0 ≤ r ∧ r ≤ 5
theorem RangeOk5.ite {c : Prop} [Decidable c] {a b : List Int} (ha : RangeOk5 a) (hb : RangeOk5 b) : RangeOk5 (if c then a else b) := by
  split
  · exact ha
  · exact hb
theorem RangeOk5.rep (n : Nat) {a : Int} (h0 : 0 ≤ a) (h8 : a ≤ 5) : RangeOk5 (List.replicate n a) := fun r hr => by rw [(List.mem_replicate.1 hr).2]; exact ⟨h0, h8⟩
theorem RangeOk5.append {a b : List Int} (ha : RangeOk5 a) (hb : RangeOk5 b) : RangeOk5 (a ++ b) := fun r hr => (List.mem_append.1 hr).elim (ha r) (hb r)
theorem RangeOk5.set {a : List Int} (ha : RangeOk5 a) (i : Nat) {x : Int} (h0 : 0 ≤ x) (h8 : x ≤ 5) : RangeOk5 (a.set i x) := fun r hr => (List.mem_or_eq_of_mem_set hr).elim (ha r) fun e => by rw [e]; exact ⟨h0, h8⟩
theorem RangeOk5.take {a : List Int} (ha : RangeOk5 a) (n : Nat) : RangeOk5 (a.take n) := fun r hr => ha r (List.mem_of_mem_take hr)
theorem RangeOk5.nil : RangeOk5 [] := fun r hr => by cases hr
theorem RangeOk5.cons {a : Int} {l : List Int} (h0 : 0 ≤ a) (h8 : a ≤ 5) (h : RangeOk5 l) : RangeOk5 (a :: l) := fun r hr => by
  rcases List.mem_cons.1 hr with rfl | h'
  · exact ⟨h0, h8⟩
  · exact h r h'
end
section
open Go.RowKit

end
end Go.Proofs.YtbegahbagnflnaaDoor
