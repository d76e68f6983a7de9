/- val.Size. -/
import Derived.Test.YteihmagldhmjgaaDoorVal
import Derived.Test.YteihmagldhmjgaaDoorRegion
namespace Go.Proofs.YteihmagldhmjgaaDoor
open Go.RowKit

mutual
def V.size : V → Nat
  | .mk _ _ s l => 1 + s.size + sizeL l
def sizeL : List V → Nat
  | [] => 0
  | x :: r => V.size x + sizeL r
end
theorem V.size_eq (x : V) : x.size = 1 + x.s.size + sizeL x.l := by cases x; simp [V.size, V.s, V.l]
theorem sizeL_take : ∀ (l : List V) (k : Nat) (x : V), l[k]? = some x → sizeL (l.take (k + 1)) = sizeL (l.take k) + x.size
  | [], k, x, h => by simp at h
  | y :: r, 0, x, h => by
    simp at h
    subst h
    simp [sizeL]
  | y :: r, k + 1, x, h => by
    have := sizeL_take r k x (by simpa using h)
    simp only [List.take_succ_cons, sizeL, this]
    omega
theorem sizeL_take_le : ∀ (l : List V) (k : Nat), sizeL (l.take k) ≤ sizeL l
  | [], k => by simp
  | y :: r, 0 => by simp [sizeL]
  | y :: r, k + 1 => by
    have := sizeL_take_le r k
    simp only [List.take_succ_cons, sizeL]
    omega
theorem sizeL_mem {l : List V} {k : Nat} {x : V} (h : l[k]? = some x) : x.size ≤ sizeL l := by
  have h1 := sizeL_take l k x h
  have h2 := sizeL_take_le l (k + 1)
  omega

end Go.Proofs.YteihmagldhmjgaaDoor
