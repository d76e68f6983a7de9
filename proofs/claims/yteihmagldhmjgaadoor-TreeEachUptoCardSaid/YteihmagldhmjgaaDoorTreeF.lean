/- Package tree: what walk answers, in plain words; how an error with its place lies. -/
import Derived.Test.YteihmagldhmjgaaDoorTreeE
namespace Go.Proofs.YteihmagldhmjgaaDoor
open Go.RowKit

mutual
/-- How much a node holds of all. -/
def Nd.sz : Nd → Nat
  | .mk _ _ s v l => 1 + s.size + v.size + szL l
def szL : List Nd → Nat
  | [] => 0
  | x :: r => Nd.sz x + szL r
end
theorem Nd.sz_eq (x : Nd) : x.sz = 1 + x.s.size + x.v.size + szL x.l := by cases x; simp [Nd.sz, Nd.l, Nd.s, Nd.v]
theorem szL_mem : ∀ {l : List Nd} {k : Nat} {x : Nd}, l[k]? = some x → x.sz ≤ szL l
  | [], k, x, h => by simp at h
  | y :: r, 0, x, h => by
    simp at h
    subst h
    simp [szL]
  | y :: r, k + 1, x, h => by
    have := szL_mem (l := r) (k := k) (by simpa using h)
    simp only [szL]
    omega
mutual
theorem Nd.cnt_sz : ∀ (x : Nd), x.cnt ≤ x.sz
  | .mk _ _ s v l => by
    have := cntL_szL l
    simp only [Nd.sz, Nd.cnt]
    omega
theorem cntL_szL : ∀ (l : List Nd), cntL l ≤ szL l
  | [] => by simp [cntL]
  | x :: r => by
    have h1 := Nd.cnt_sz x
    have h2 := cntL_szL r
    simp only [szL, cntL]
    omega
end

/-- The role of a child: its own, or what its father's place makes of it. -/
def rW (role op : Int) (i : Nat) (r : Int) : Int := if role = 5 then 0 else if role = 2 ∧ op = 20 ∧ i = 0 then 2 else if role = 4 ∧ op = 26 then 3 else r
def inW (op : Int) (loop : Bool) (r : Int) : Bool := (loop && op != 48) || (pLoops op && r == 6)
mutual
/-- What is first amiss with a node, and what it has: the error's number (0: nothing), and the line. -/
def pWalk : Nd → Int → Bool → Nat × Int
  | .mk op ln s v l, role, loop => if pOwn (.mk op ln s v l) role loop = 0 then pWalkL op role loop (pRoles op l.length) 0 l else (pOwn (.mk op ln s v l) role loop, ln)
def pWalkL (op role : Int) (loop : Bool) (R : List Int) : Nat → List Nd → Nat × Int
  | _, [] => (0, 0)
  | i, y :: r => if (pWalk y (rW role op i (R.getD i 0)) (inW op loop (rW role op i (R.getD i 0)))).1 = 0 then pWalkL op role loop R (i + 1) r else pWalk y (rW role op i (R.getD i 0)) (inW op loop (rW role op i (R.getD i 0)))
end
theorem pWalk_eq (x : Nd) (role : Int) (loop : Bool) : pWalk x role loop = if pOwn x role loop = 0 then pWalkL x.op role loop (pRoles x.op x.l.length) 0 x.l else (pOwn x role loop, x.ln) := by
  obtain ⟨op, ln, s, v, l⟩ := x
  rw [pWalk]
  rfl
theorem pWalkL_nil (op role : Int) (loop : Bool) (R : List Int) (i : Nat) : pWalkL op role loop R i [] = (0, 0) := by rw [pWalkL]
theorem pWalkL_cons (op role : Int) (loop : Bool) (R : List Int) (i : Nat) (y : Nd) (r : List Nd) : pWalkL op role loop R i (y :: r) = if (pWalk y (rW role op i (R.getD i 0)) (inW op loop (rW role op i (R.getD i 0)))).1 = 0 then pWalkL op role loop R (i + 1) r else pWalk y (rW role op i (R.getD i 0)) (inW op loop (rW role op i (R.getD i 0))) := by rw [pWalkL]
theorem drop_at {l : List Nd} {k : Nat} {y : Nd} (h : l[k]? = some y) : l.drop k = y :: l.drop (k + 1) := by
  obtain ⟨hk, rfl⟩ := List.getElem?_eq_some_iff.1 h
  exact (List.drop_eq_getElem_cons hk)
theorem pWalkL_step {op role : Int} {loop : Bool} {R : List Int} {l : List Nd} {k : Nat} {y : Nd} (h : l[k]? = some y) : pWalkL op role loop R k (l.drop k) = if (pWalk y (rW role op k (R.getD k 0)) (inW op loop (rW role op k (R.getD k 0)))).1 = 0 then pWalkL op role loop R (k + 1) (l.drop (k + 1)) else pWalk y (rW role op k (R.getD k 0)) (inW op loop (rW role op k (R.getD k 0))) := by
  rw [drop_at h, pWalkL_cons]

/-- An error with its place, or none. -/
def AtV (pa : Nat → Addr) (w : World) (q : Nat × Int) (v : Value) : Prop :=
  (q.1 = 0 ∧ v = .nilIface) ∨ (q.1 ≠ 0 ∧ ∃ b, v = .iface 76 (.pointer (some ⟨b, 0, none⟩)) ∧ w.heap[b]? = some (.cells #[.int .i64 q.2, errV pa q.1] 79))
theorem AtV.frame {pa : Nat → Addr} {w w' : World} {q : Nat × Int} {v : Value} (h : AtV pa w q v) (hf : Fr (fun _ => False) w w') : AtV pa w' q v := by
  rcases h with h | ⟨h, b, e, hb⟩
  · exact .inl h
  · exact .inr ⟨h, b, e, hf.heap hb not_false⟩

theorem ifL_length (n : Nat) : (ifL n).length = n := by
  unfold ifL
  split <;> simp
theorem pRoles_len (op : Int) (n : Nat) (h : pCounts op n = true) : (pRoles op n).length = n := by
  unfold pCounts at h
  unfold pRoles
  have hop : op = 1 ∨ op = 2 ∨ op = 45 ∨ op = 46 ∨ op = 3 ∨ op = 4 ∨ op = 26 ∨ op = 40 ∨ (5 ≤ op ∧ op ≤ 18) ∨ op = 20 ∨ op = 22 ∨ op = 19 ∨ op = 21 ∨ op = 43 ∨ op = 23 ∨ op = 28 ∨ op = 41 ∨ op = 49 ∨ op = 24 ∨ op = 25 ∨ op = 52 ∨ op = 27 ∨ op = 42 ∨ op = 44 ∨ op = 48 ∨ op = 50 ∨ op = 51 ∨ op = 29 ∨ op = 47 ∨ (¬ (op = 1 ∨ op = 2 ∨ op = 45 ∨ op = 46) ∧ ¬ (op = 3 ∨ op = 4 ∨ op = 26 ∨ op = 40) ∧ ¬ ((5 ≤ op ∧ op ≤ 18) ∨ op = 20 ∨ op = 22) ∧ ¬ (op = 19 ∨ op = 21 ∨ op = 43) ∧ ¬ (op = 23 ∨ op = 28 ∨ op = 41 ∨ op = 49) ∧ ¬ (op = 24 ∨ op = 25 ∨ op = 52) ∧ ¬ (op = 27 ∨ op = 42 ∨ op = 44 ∨ op = 48 ∨ op = 50 ∨ op = 51) ∧ op ≠ 29 ∧ op ≠ 47) := by omega
  rcases hop with rfl | rfl | rfl | rfl | rfl | rfl | rfl | rfl | ⟨h1, h2⟩ | rfl | rfl | rfl | rfl | rfl | rfl | rfl | rfl | rfl | rfl | rfl | rfl | rfl | rfl | rfl | rfl | rfl | rfl | rfl | rfl | ⟨a1, a2, a3, a4, a5, a6, a7, a8, a9⟩
  case inr.inr.inr.inr.inr.inr.inr.inr.inl =>
    rw [if_neg (by omega), if_neg (by omega), if_pos (by omega)] at h
    rw [if_neg (by omega), if_neg (by omega), if_pos (by omega)]
    simp at h
    simp [h]
  case inr.inr.inr.inr.inr.inr.inr.inr.inr.inr.inr.inr.inr.inr.inr.inr.inr.inr.inr.inr.inr.inr.inr.inr.inr.inr.inr.inr.inr => rw [if_neg a1, if_neg a2, if_neg a3, if_neg a4, if_neg a5, if_neg a6, if_neg a7, if_neg a8, if_neg a9] at h; cases h
  all_goals simp [ifL_length] at h ⊢
  all_goals omega
end Go.Proofs.YteihmagldhmjgaaDoor
