/- Chapter 7, plain: nodes made by hand; a Break in a loop, in other blocks, through a Fork. -/
import Derived.Test.YteihmagldhmjgaaDoorTreeI
namespace Go.Proofs.YteihmagldhmjgaaDoor
open Go.RowKit

def v0 : V := .mk 0 0 ⟨#[]⟩ []
/-- A node with an Op, and what it has. -/
def nd0 (op : Int) (l : List Nd) : Nd := .mk op 0 ⟨#[]⟩ v0 l
/-- Its cells. -/
def nU (op : Int) (la : Value) : Array Value := #[.int .i64 op, .int .i64 0, .string ⟨#[]⟩, .int .i64 0, .int .i64 0, .string ⟨#[]⟩, .slice none 0 0, la]
theorem nd0_in {D : Nat → Prop} {w : World} (op : Int) {l : List Nd} {va : Value} (h : NL D w l va) : NIn D w (nd0 op l) (nU op va) := h.close op 0 ⟨#[]⟩ v0 (VL.nil D w)
mutual
theorem pWalk_zero : ∀ (x : Nd) (role : Int) (loop : Bool), (pWalk x role loop).1 = 0 → pWalk x role loop = (0, 0)
  | .mk op ln s v l, role, loop => by
    rw [pWalk]
    split
    · exact pWalkL_zero l _ _ _ _ _
    · intro h
      exact absurd h ‹_›
theorem pWalkL_zero : ∀ (l : List Nd) (op role : Int) (loop : Bool) (R : List Int) (i : Nat), (pWalkL op role loop R i l).1 = 0 → pWalkL op role loop R i l = (0, 0)
  | [], op, role, loop, R, i => by rw [pWalkL]; intro _; rfl
  | y :: r, op, role, loop, R, i => by
    rw [pWalkL]
    split
    · exact pWalkL_zero r _ _ _ _ _
    · intro h
      exact absurd h ‹_›
end
theorem walk1 (op role : Int) (loop : Bool) (R : List Int) (a : Nd) : pWalkL op role loop R 0 [a] = pWalk a (rW role op 0 (R.getD 0 0)) (inW op loop (rW role op 0 (R.getD 0 0))) := by
  rw [pWalkL_cons, pWalkL_nil]
  split
  · exact (pWalk_zero _ _ _ ‹_›).symm
  · rfl
theorem walk2 (op role : Int) (loop : Bool) (R : List Int) (a b : Nd) (ha : (pWalk a (rW role op 0 (R.getD 0 0)) (inW op loop (rW role op 0 (R.getD 0 0)))).1 = 0) : pWalkL op role loop R 0 [a, b] = pWalk b (rW role op 1 (R.getD 1 0)) (inW op loop (rW role op 1 (R.getD 1 0))) := by
  rw [pWalkL_cons, if_pos ha, pWalkL_cons, pWalkL_nil]
  split
  · exact (pWalk_zero _ _ _ ‹_›).symm
  · rfl
theorem walk2b (op role : Int) (loop : Bool) (R : List Int) (a b : Nd) (hb : (pWalk b (rW role op 1 (R.getD 1 0)) (inW op loop (rW role op 1 (R.getD 1 0)))).1 = 0) : pWalkL op role loop R 0 [a, b] = pWalk a (rW role op 0 (R.getD 0 0)) (inW op loop (rW role op 0 (R.getD 0 0))) := by
  rw [pWalkL_cons]
  split
  · rw [pWalkL_cons, if_pos hb, pWalkL_nil]
    exact (pWalk_zero _ _ _ ‹_›).symm
  · rfl
def oneN : Nd := .mk 1 0 ⟨#[]⟩ (.mk 0 1 ⟨#[]⟩ []) []
def blkN (l : List Nd) : Nd := nd0 52 l
def wrapN (c : Int) (n : Nd) : Nd :=
  if c = 0 then nd0 44 [oneN, blkN [n]] else if c = 1 then nd0 48 [oneN, blkN [n]] else if c = 2 then nd0 41 [oneN, blkN [n]] else if c = 3 then nd0 51 [blkN [n], blkN []] else nd0 49 [blkN [n], nd0 50 [nd0 25 [], blkN []]]
def stL (c : Int) (lp : Bool) : Bool := if c = 0 then true else if c = 1 then false else lp
theorem bytes0 : (⟨#[]⟩ : ByteArray).toList.isEmpty = true := by rw [ByteArray.toList_eq]; rfl
theorem own0 (op : Int) (l : List Nd) (role : Int) (lp : Bool) : pOwn (nd0 op l) role lp = if ownBad (fair1 (pStands op role) lp op && (if op = 1 then litOk v0 else true)) (pCounts op l.length) (pNamed op).1 true then 103 else if ownBad2 (pNamed op).1 (pName ⟨#[]⟩) (pNamed op).2 true then 106 else 0 := by
  have h1 : noV v0 = true := by unfold noV; rw [show v0.s = ⟨#[]⟩ from rfl, bytes0]; rfl
  have h2 : pOwn (nd0 op l) role lp = if ownBad (fair1 (pStands op role) lp op && fairV op v0) (pCounts op l.length) (pNamed op).1 (⟨#[]⟩ : ByteArray).toList.isEmpty then 103 else if ownBad2 (pNamed op).1 (pName ⟨#[]⟩) (pNamed op).2 (⟨#[]⟩ : ByteArray).toList.isEmpty then 106 else 0 := rfl
  rw [h2, bytes0]
  unfold fairV
  rw [h1]
theorem own_one (lp : Bool) : pWalk oneN 0 lp = (0, 0) := by
  have h2 : pOwn oneN 0 lp = if ownBad (fair1 (pStands 1 0) lp 1 && litOk (.mk 0 1 ⟨#[]⟩ [])) true false (⟨#[]⟩ : ByteArray).toList.isEmpty then 103 else if ownBad2 false (pName ⟨#[]⟩) false (⟨#[]⟩ : ByteArray).toList.isEmpty then 106 else 0 := rfl
  have h3 : pOwn oneN 0 lp = 0 := by
    rw [h2, bytes0]
    generalize pName _ = nm
    cases nm <;> cases lp <;> rfl
  rw [pWalk_eq, if_pos h3]
  exact pWalkL_nil _ _ _ _ _
theorem walk_blk (n : Nd) (lp : Bool) : pWalk (blkN [n]) 6 lp = pWalk n 7 lp := by
  have h0 : pOwn (blkN [n]) 6 lp = 0 := by
    refine (own0 52 [n] 6 lp).trans ?_
    generalize pName _ = nm
    cases nm <;> cases lp <;> rfl
  rw [pWalk_eq, if_pos h0]
  refine (walk1 52 6 lp (pRoles 52 1) n).trans ?_
  cases lp <;> rfl
theorem walk_nil (op role : Int) (lp : Bool) (h : pOwn (nd0 op []) role lp = 0) : pWalk (nd0 op []) role lp = (0, 0) := by
  rw [pWalk_eq, if_pos h]
  exact pWalkL_nil _ _ _ _ _
theorem walk_blk0 (lp : Bool) : pWalk (blkN []) 6 lp = (0, 0) := by
  refine walk_nil 52 6 lp ((own0 52 [] 6 lp).trans ?_)
  generalize pName _ = nm
  cases nm <;> cases lp <;> rfl
theorem walk_exc (lp : Bool) : pWalk (nd0 50 [nd0 25 [], blkN []]) 8 lp = (0, 0) := by
  have h0 : pOwn (nd0 50 [nd0 25 [], blkN []]) 8 lp = 0 := by
    refine (own0 50 _ 8 lp).trans ?_
    generalize pName _ = nm
    cases nm <;> cases lp <;> rfl
  have h1 : ∀ lp, pWalk (nd0 25 []) 5 lp = (0, 0) := fun lp => by
    refine walk_nil 25 5 lp ((own0 25 [] 5 lp).trans ?_)
    generalize pName _ = nm
    cases nm <;> cases lp <;> rfl
  rw [pWalk_eq, if_pos h0]
  refine (walk2 50 8 lp (pRoles 50 2) (nd0 25 []) (blkN []) ?_).trans ?_
  · rw [show rW 8 50 0 ((pRoles 50 2).getD 0 0) = 5 from rfl, h1]
  · rw [show rW 8 50 1 ((pRoles 50 2).getD 1 0) = 6 from rfl, walk_blk0]
theorem walk_loop (n : Nd) (lp : Bool) : pWalk (nd0 44 [oneN, blkN [n]]) 7 lp = pWalk n 7 true := by
  have h0 : pOwn (nd0 44 [oneN, blkN [n]]) 7 lp = 0 := by
    refine (own0 44 _ 7 lp).trans ?_
    generalize pName _ = nm
    cases nm <;> cases lp <;> rfl
  rw [pWalk_eq, if_pos h0]
  refine (walk2 44 7 lp (pRoles 44 2) oneN (blkN [n]) ?_).trans ?_
  · rw [show rW 7 44 0 ((pRoles 44 2).getD 0 0) = 0 from rfl, own_one]
  · rw [show rW 7 44 1 ((pRoles 44 2).getD 1 0) = 6 from rfl, show inW 44 lp 6 = true by cases lp <;> rfl]
    exact walk_blk n true
theorem walk_fork (n : Nd) (lp : Bool) : pWalk (nd0 48 [oneN, blkN [n]]) 7 lp = pWalk n 7 false := by
  have h0 : pOwn (nd0 48 [oneN, blkN [n]]) 7 lp = 0 := by
    refine (own0 48 _ 7 lp).trans ?_
    generalize pName _ = nm
    cases nm <;> cases lp <;> rfl
  rw [pWalk_eq, if_pos h0]
  refine (walk2 48 7 lp (pRoles 48 2) oneN (blkN [n]) ?_).trans ?_
  · rw [show rW 7 48 0 ((pRoles 48 2).getD 0 0) = 0 from rfl, own_one]
  · rw [show rW 7 48 1 ((pRoles 48 2).getD 1 0) = 6 from rfl, show inW 48 lp 6 = false by cases lp <;> rfl]
    exact walk_blk n false
theorem walk_if (n : Nd) (lp : Bool) : pWalk (nd0 41 [oneN, blkN [n]]) 7 lp = pWalk n 7 lp := by
  have h0 : pOwn (nd0 41 [oneN, blkN [n]]) 7 lp = 0 := by
    refine (own0 41 _ 7 lp).trans ?_
    generalize pName _ = nm
    cases nm <;> cases lp <;> rfl
  rw [pWalk_eq, if_pos h0]
  refine (walk2 41 7 lp (pRoles 41 2) oneN (blkN [n]) ?_).trans ?_
  · rw [show rW 7 41 0 ((pRoles 41 2).getD 0 0) = 0 from rfl, own_one]
  · rw [show rW 7 41 1 ((pRoles 41 2).getD 1 0) = 6 from rfl, show inW 41 lp 6 = lp by cases lp <;> rfl]
    exact walk_blk n lp
theorem walk_fin (n : Nd) (lp : Bool) : pWalk (nd0 51 [blkN [n], blkN []]) 7 lp = pWalk n 7 lp := by
  have h0 : pOwn (nd0 51 [blkN [n], blkN []]) 7 lp = 0 := by
    refine (own0 51 _ 7 lp).trans ?_
    generalize pName _ = nm
    cases nm <;> cases lp <;> rfl
  rw [pWalk_eq, if_pos h0]
  refine (walk2b 51 7 lp (pRoles 51 2) (blkN [n]) (blkN []) ?_).trans ?_
  · rw [show rW 7 51 1 ((pRoles 51 2).getD 1 0) = 6 from rfl, walk_blk0]
  · rw [show rW 7 51 0 ((pRoles 51 2).getD 0 0) = 6 from rfl, show inW 51 lp 6 = lp by cases lp <;> rfl]
    exact walk_blk n lp
theorem walk_try (n : Nd) (lp : Bool) : pWalk (nd0 49 [blkN [n], nd0 50 [nd0 25 [], blkN []]]) 7 lp = pWalk n 7 lp := by
  have h0 : pOwn (nd0 49 [blkN [n], nd0 50 [nd0 25 [], blkN []]]) 7 lp = 0 := by
    refine (own0 49 _ 7 lp).trans ?_
    generalize pName _ = nm
    cases nm <;> cases lp <;> rfl
  rw [pWalk_eq, if_pos h0]
  refine (walk2b 49 7 lp (pRoles 49 2) (blkN [n]) (nd0 50 [nd0 25 [], blkN []]) ?_).trans ?_
  · rw [show rW 7 49 1 ((pRoles 49 2).getD 1 0) = 8 from rfl, walk_exc]
  · rw [show rW 7 49 0 ((pRoles 49 2).getD 0 0) = 6 from rfl, show inW 49 lp 6 = lp by cases lp <;> rfl]
    exact walk_blk n lp
theorem walk_wrap (c : Int) (n : Nd) (lp : Bool) : pWalk (wrapN c n) 7 lp = pWalk n 7 (stL c lp) := by
  unfold wrapN stL
  split
  · exact walk_loop n lp
  split
  · exact walk_fork n lp
  split
  · exact walk_if n lp
  split
  · exact walk_fin n lp
  · exact walk_try n lp
/-- The tree of these, about a node. -/
def treeN (cs : List Int) (n : Nd) : Nd := cs.foldl (fun n c => wrapN c n) n
theorem walk_tree : ∀ (cs : List Int) (n : Nd) (lp : Bool), pWalk (treeN cs n) 7 lp = pWalk n 7 (cs.foldr stL lp)
  | [], n, lp => rfl
  | c :: cs, n, lp => by
    show pWalk (treeN cs (wrapN c n)) 7 lp = _
    rw [walk_tree cs, walk_wrap]
    rfl
def loopB (cs : List Int) : Bool := cs.foldr stL false
def doneB (cs : List Int) : Bool := cs.any fun c => c == 0 || c == 1
theorem foldr_st : ∀ (cs : List Int) (lp : Bool), cs.foldr stL lp = (loopB cs || (!doneB cs && lp))
  | [], lp => by simp [loopB, doneB]
  | c :: cs, lp => by
    have ih := foldr_st cs lp
    have ih0 : loopB (c :: cs) = stL c (loopB cs) := rfl
    have id0 : doneB (c :: cs) = ((c == 0 || c == 1) || doneB cs) := rfl
    rw [List.foldr_cons, ih, ih0, id0]
    unfold stL
    by_cases h0 : c = 0
    · subst h0; simp
    by_cases h1 : c = 1
    · subst h1; simp
    · have q0 : (c == 0) = false := by simpa using h0
      have q1 : (c == 1) = false := by simpa using h1
      simp [h0, h1, q0, q1]
theorem loopB_snoc (cs : List Int) (c : Int) : loopB (cs ++ [c]) = if c = 0 then (loopB cs || !doneB cs) else loopB cs := by
  show (cs ++ [c]).foldr stL false = _
  rw [List.foldr_append, foldr_st]
  simp only [List.foldr_cons, List.foldr_nil]
  unfold stL
  by_cases h0 : c = 0
  · subst h0; simp
  by_cases h1 : c = 1
  · subst h1; simp
  · simp [h0, h1]
theorem doneB_snoc (cs : List Int) (c : Int) : doneB (cs ++ [c]) = (doneB cs || (c == 0 || c == 1)) := by
  unfold doneB
  rw [List.any_append]
  simp
theorem treeN_snoc (cs : List Int) (c : Int) (n : Nd) : treeN (cs ++ [c]) n = wrapN c (treeN cs n) := by
  unfold treeN
  rw [List.foldl_append]
  rfl
theorem wrap_cnt (c : Int) (n : Nd) : (wrapN c n).cnt ≤ n.cnt + 5 := by
  unfold wrapN
  repeat' split
  all_goals simp [nd0, blkN, oneN, Nd.cnt, cntL]
  all_goals omega
theorem wrap_dep (c : Int) (n : Nd) : (wrapN c n).dep ≤ n.dep + 2 := by
  have := Nd.dep_eq n
  unfold wrapN
  repeat' split
  all_goals simp [nd0, blkN, oneN, Nd.dep, depL]
  all_goals omega
theorem wrap_sz (c : Int) (n : Nd) : (wrapN c n).sz ≤ n.sz + 20 := by
  unfold wrapN
  have hv : v0.size = 1 := rfl
  have h1 : (V.mk 0 1 ⟨#[]⟩ []).size = 1 := rfl
  have he : (ByteArray.mk #[]).size = 0 := rfl
  repeat' split
  all_goals simp [nd0, blkN, oneN, Nd.sz, szL, hv, h1, he]
  all_goals omega
theorem tree_bounds : ∀ (cs : List Int) (n : Nd), (treeN cs n).cnt ≤ n.cnt + 5 * cs.length ∧ (treeN cs n).dep ≤ n.dep + 2 * cs.length ∧ (treeN cs n).sz ≤ n.sz + 20 * cs.length
  | [], n => ⟨Nat.le_refl _, Nat.le_refl _, Nat.le_refl _⟩
  | c :: cs, n => by
    obtain ⟨h1, h2, h3⟩ := tree_bounds cs (wrapN c n)
    have := wrap_cnt c n
    have := wrap_dep c n
    have := wrap_sz c n
    have he : treeN (c :: cs) n = treeN cs (wrapN c n) := rfl
    rw [he]
    simp only [List.length_cons]
    omega
theorem leaf_walk (op : Int) (h : op = 45 ∨ op = 46) (lp : Bool) : pWalk (nd0 op []) 7 lp = if lp then (0, 0) else (103, 0) := by
  rcases h with rfl | rfl
  all_goals
    cases lp
    · rw [pWalk_eq]
      have h0 := fun op => own0 op [] 7 false
      rw [h0]
      generalize pName _ = nm
      cases nm <;> rfl
    · refine walk_nil _ 7 true ((own0 _ [] 7 true).trans ?_)
      generalize pName _ = nm
      cases nm <;> rfl
theorem pValid_tree (cs : List Int) (hc : cs.length ≤ 15) (op : Int) (h : op = 45 ∨ op = 46) : pValid [treeN cs (nd0 op [])] 7 = if loopB cs then ⟨0, false, 0⟩ else ⟨103, true, 0⟩ := by
  obtain ⟨h1, h2, h3⟩ := tree_bounds cs (nd0 op [])
  have hc0 : (nd0 op []).cnt = 1 := rfl
  have hd0 : (nd0 op []).dep = 1 := rfl
  unfold pValid
  rw [if_neg (by simp only [cntL]; omega), if_neg (by simp only [depL]; omega)]
  have hw := walk_tree cs (nd0 op []) false
  rw [leaf_walk op h] at hw
  have hw2 : pVals 7 [treeN cs (nd0 op [])] = if loopB cs then (0, 0) else (103, 0) := by
    have : cs.foldr stL false = loopB cs := rfl
    rw [this] at hw
    rw [pVals, hw]
    cases loopB cs <;> rfl
  rw [hw2]
  cases loopB cs <;> rfl
end Go.Proofs.YteihmagldhmjgaaDoor
