/- Plain: the document's places, loops, what is amiss, are the program's. -/
import Derived.Test.YteihmagldhmjgaaDoorDocA
import Derived.Test.YteihmagldhmjgaaDoorDocD
import Derived.Test.YteihmagldhmjgaaDoorTreeH
namespace Go.Proofs.YteihmagldhmjgaaDoor
open Go.RowKit

theorem rW_plain {role op : Int} (i : Nat) (r : Int) (h5 : role ≠ 5) (h20 : op ≠ 20) (h26 : op ≠ 26) : rW role op i r = r := by
  unfold rW
  rw [if_neg h5, if_neg (fun h => h20 h.2.1), if_neg (fun h => h26 h.2)]
theorem getD_rep (m i : Nat) (a : Int) (h : i < m) : (List.replicate m a).getD i 0 = a := by
  simp [List.getD, List.getElem?_replicate, h]
theorem ifK_getD (n i : Nat) (h : i < n) : (ifK n).getD i 0 = if i % 2 = 0 then 0 else 6 := by
  simp [ifK, List.getD, List.getElem?_map, List.getElem?_range h]
set_option maxHeartbeats 1600000 in
theorem dPlace_eq (op role : Int) (n i : Nat) (h0 : 0 ≤ role) (h8 : role ≤ 8) (hst : pStands op role = true) (hc : pCounts op n = true) (hi : i < n) : dPlace op n (plc role) i = plc (rW role op i ((pRoles op n).getD i 0)) := by
  have h5 : role = 5 → op = 25 := fun e => by subst e; simpa [pStands] using hst
  have hl : op = 3 ∨ op = 4 ∨ op = 40 ∨ (5 ≤ op ∧ op ≤ 18) ∨ op = 22 ∨ op = 19 ∨ op = 21 ∨ op = 47 ∨ op = 1 ∨ op = 2 ∨ op = 45 ∨ op = 46 ∨ op = 26 ∨ op = 20 ∨ op = 43 ∨ op = 23 ∨ op = 28 ∨ op = 41 ∨ op = 49 ∨ op = 24 ∨ op = 25 ∨ op = 52 ∨ op = 27 ∨ op = 42 ∨ op = 44 ∨ op = 48 ∨ op = 50 ∨ op = 51 ∨ op = 29 := by
    unfold pCounts at hc
    repeat' split at hc
    all_goals first | omega | cases hc
  have e25 : ∀ {k : Int}, op = k → k ≠ 25 → role ≠ 5 := fun e hk h => hk (e ▸ h5 h)
  rcases hl with rfl | rfl | rfl | hop | rfl | rfl | rfl | rfl | rfl | rfl | rfl | rfl | rfl | rfl | rfl | rfl | rfl | rfl | rfl | rfl | rfl | rfl | rfl | rfl | rfl | rfl | rfl | rfl | rfl
  -- 3, 4, 40
  · obtain rfl : n = 1 := by simpa [pCounts] using hc
    rw [rW_plain _ _ (e25 rfl (by decide)) (by decide) (by decide)]
    obtain rfl : i = 0 := by omega
    rfl
  · obtain rfl : n = 1 := by simpa [pCounts] using hc
    rw [rW_plain _ _ (e25 rfl (by decide)) (by decide) (by decide)]
    obtain rfl : i = 0 := by omega
    rfl
  · obtain rfl : n = 1 := by simpa [pCounts] using hc
    rw [rW_plain _ _ (e25 rfl (by decide)) (by decide) (by decide)]
    obtain rfl : i = 0 := by omega
    rfl
  -- 5 to 18
  · have hn : n = 2 := by
      unfold pCounts at hc
      rw [if_neg (by omega), if_neg (by omega), if_pos (by omega)] at hc
      simpa using hc
    subst hn
    have h5' : role ≠ 5 := fun h => by have := h5 h; omega
    rw [rW_plain _ _ h5' (by omega) (by omega)]
    have hr : pRoles op 2 = List.replicate 2 0 := by unfold pRoles; rw [if_neg (by omega), if_neg (by omega), if_pos (by omega)]
    rw [hr, getD_rep 2 i 0 hi]
    unfold dPlace
    rw [if_neg (by omega), if_neg (by omega), if_neg (by omega), if_neg (by omega), if_neg (by omega), if_neg (by omega), if_neg (by omega), if_neg (by omega), if_neg (by omega), if_neg (by omega), if_neg (by omega), if_neg (by omega), if_neg (by omega), if_neg (by omega)]
    rfl
  -- 22
  · obtain rfl : n = 2 := by simpa [pCounts] using hc
    rw [rW_plain _ _ (e25 rfl (by decide)) (by decide) (by decide)]
    obtain rfl | rfl : i = 0 ∨ i = 1 := by omega
    all_goals rfl
  -- 19, 21
  · obtain rfl : n = 3 := by simpa [pCounts] using hc
    rw [rW_plain _ _ (e25 rfl (by decide)) (by decide) (by decide)]
    obtain rfl | rfl | rfl : i = 0 ∨ i = 1 ∨ i = 2 := by omega
    all_goals rfl
  · obtain rfl : n = 3 := by simpa [pCounts] using hc
    rw [rW_plain _ _ (e25 rfl (by decide)) (by decide) (by decide)]
    obtain rfl | rfl | rfl : i = 0 ∨ i = 1 ∨ i = 2 := by omega
    all_goals rfl
  -- 47
  · have hn : n ≤ 1 := by simpa [pCounts] using hc
    obtain rfl : n = 1 := by omega
    rw [rW_plain _ _ (e25 rfl (by decide)) (by decide) (by decide)]
    obtain rfl : i = 0 := by omega
    rfl
  -- 1, 2, 45, 46
  · obtain rfl : n = 0 := by simpa [pCounts] using hc
    omega
  · obtain rfl : n = 0 := by simpa [pCounts] using hc
    omega
  · obtain rfl : n = 0 := by simpa [pCounts] using hc
    omega
  · obtain rfl : n = 0 := by simpa [pCounts] using hc
    omega
  -- 26
  · obtain rfl : n = 1 := by simpa [pCounts] using hc
    obtain rfl : i = 0 := by omega
    have hr : role = 0 ∨ role = 1 ∨ role = 2 ∨ role = 3 ∨ role = 4 ∨ role = 6 ∨ role = 7 ∨ role = 8 := by have := e25 rfl (by decide); omega
    rcases hr with rfl | rfl | rfl | rfl | rfl | rfl | rfl | rfl
    all_goals rfl
  -- 20
  · obtain rfl : n = 2 := by simpa [pCounts] using hc
    have hr : role = 0 ∨ role = 1 ∨ role = 2 ∨ role = 3 ∨ role = 4 ∨ role = 6 ∨ role = 7 ∨ role = 8 := by have := e25 rfl (by decide); omega
    obtain rfl | rfl : i = 0 ∨ i = 1 := by omega
    all_goals
      rcases hr with rfl | rfl | rfl | rfl | rfl | rfl | rfl | rfl
      all_goals rfl
  -- 43
  · obtain rfl : n = 3 := by simpa [pCounts] using hc
    rw [rW_plain _ _ (e25 rfl (by decide)) (by decide) (by decide)]
    obtain rfl | rfl | rfl : i = 0 ∨ i = 1 ∨ i = 2 := by omega
    all_goals rfl
  -- 23
  · have hn : 2 ≤ n := by simpa [pCounts] using hc
    rw [rW_plain _ _ (e25 rfl (by decide)) (by decide) (by decide)]
    have hr : pRoles 23 n = List.replicate 2 0 ++ List.replicate (n - 2) 1 := rfl
    have hp : dPlace 23 n (plc role) i = if 2 ≤ i then 2 else 1 := rfl
    rw [hr, hp]
    rcases i with _ | _ | j
    · rfl
    · rfl
    · have e : (List.replicate 2 (0 : Int) ++ List.replicate (n - 2) 1).getD (j + 2) 0 = (1 : Int) := by
        show (List.replicate (n - 2) (1 : Int)).getD j 0 = 1
        exact getD_rep _ _ _ (by omega)
      rw [if_pos (by omega), e]
      rfl
  -- 28
  · have hn : 2 ≤ n := by simpa [pCounts] using hc
    rw [rW_plain _ _ (e25 rfl (by decide)) (by decide) (by decide)]
    have hr : pRoles 28 n = (List.replicate (n - 1) 3).set (n - 2) 4 ++ [0] := rfl
    have hp : dPlace 28 n (plc role) i = if (i : Int) = n - 2 then 5 else if (i : Int) < n - 2 then 4 else 1 := rfl
    rw [hr, hp]
    by_cases h : i = n - 2
    · have e : ((List.replicate (n - 1) (3 : Int)).set (n - 2) 4 ++ [0]).getD i 0 = (4 : Int) := by
        subst h
        rw [List.getD_eq_getElem?_getD, List.getElem?_append_left (by simp; omega), List.getElem?_set_self (by simp; omega)]; rfl
      rw [if_pos (by omega), e]
      rfl
    · by_cases h2 : i < n - 2
      · have e : ((List.replicate (n - 1) (3 : Int)).set (n - 2) 4 ++ [0]).getD i 0 = (3 : Int) := by
          rw [List.getD_eq_getElem?_getD, List.getElem?_append_left (by simp; omega), List.getElem?_set_ne (by omega), List.getElem?_replicate, if_pos (by omega)]; rfl
        rw [if_neg (by omega), if_pos (by omega), e]
        rfl
      · have e : ((List.replicate (n - 1) (3 : Int)).set (n - 2) 4 ++ [0]).getD i 0 = (0 : Int) := by
          rw [List.getD_eq_getElem?_getD, List.getElem?_append_right (by simp; omega)]
          simp [show i - (n - 1) = 0 by omega]
        rw [if_neg (by omega), if_neg (by omega), e]
        rfl
  -- 41
  · have hn : 2 ≤ n := by simpa [pCounts] using hc
    rw [rW_plain _ _ (e25 rfl (by decide)) (by decide) (by decide)]
    have hr : pRoles 41 n = ifL n := rfl
    have hp : dPlace 41 n (plc role) i = if i % 2 = 1 ∨ (i : Int) = n - 1 then 7 else 1 := rfl
    rw [hr, hp]
    unfold ifL
    by_cases he : n % 2 = 0
    · rw [if_pos he, ifK_getD n i hi]
      by_cases h : i % 2 = 0
      · rw [if_pos h, if_neg (by omega)]; rfl
      · rw [if_neg h, if_pos (by omega)]; rfl
    · rw [if_neg he]
      by_cases h : i = n - 1
      · have e : ((ifK n).set (n - 1) 6).getD i 0 = (6 : Int) := by
          subst h
          rw [List.getD_eq_getElem?_getD, List.getElem?_set_self (by simp; omega)]; rfl
        rw [if_pos (by omega), e]
        rfl
      · have e : ((ifK n).set (n - 1) 6).getD i 0 = (ifK n).getD i 0 := by rw [List.getD_eq_getElem?_getD, List.getElem?_set_ne (by omega), List.getD_eq_getElem?_getD]
        rw [e, ifK_getD n i hi]
        by_cases h2 : i % 2 = 0
        · rw [if_pos h2, if_neg (by omega)]; rfl
        · rw [if_neg h2, if_pos (by omega)]; rfl
  -- 49
  · have hn : 2 ≤ n := by simpa [pCounts] using hc
    rw [rW_plain _ _ (e25 rfl (by decide)) (by decide) (by decide)]
    have hr : pRoles 49 n = 6 :: List.replicate (n - 1) 8 := rfl
    have hp : dPlace 49 n (plc role) i = if 0 < i then 8 else 7 := rfl
    rw [hr, hp]
    cases i with
    | zero => rfl
    | succ j =>
      have e : ((6 : Int) :: List.replicate (n - 1) 8).getD (j + 1) 0 = (8 : Int) := getD_rep (n - 1) j 8 (by omega)
      rw [if_pos (by omega), e]
      rfl
  -- 24
  · rw [rW_plain _ _ (e25 rfl (by decide)) (by decide) (by decide)]
    have hr : pRoles 24 n = List.replicate n 1 := rfl
    rw [hr, getD_rep n i 1 hi]
    rfl
  -- 25
  · have hr : pRoles 25 n = List.replicate n 1 := rfl
    rw [hr, getD_rep n i 1 hi]
    have hr : role = 0 ∨ role = 1 ∨ role = 2 ∨ role = 3 ∨ role = 4 ∨ role = 5 ∨ role = 6 ∨ role = 7 ∨ role = 8 := by omega
    rcases hr with rfl | rfl | rfl | rfl | rfl | rfl | rfl | rfl | rfl
    all_goals rfl
  -- 52
  · rw [rW_plain _ _ (e25 rfl (by decide)) (by decide) (by decide)]
    have hr : pRoles 52 n = List.replicate n 7 := rfl
    rw [hr, getD_rep n i 7 hi]
    rfl
  -- 27
  · obtain rfl : n = 2 := by simpa [pCounts] using hc
    rw [rW_plain _ _ (e25 rfl (by decide)) (by decide) (by decide)]
    obtain rfl | rfl : i = 0 ∨ i = 1 := by omega
    all_goals rfl
  · obtain rfl : n = 2 := by simpa [pCounts] using hc
    rw [rW_plain _ _ (e25 rfl (by decide)) (by decide) (by decide)]
    obtain rfl | rfl : i = 0 ∨ i = 1 := by omega
    all_goals rfl
  · obtain rfl : n = 2 := by simpa [pCounts] using hc
    rw [rW_plain _ _ (e25 rfl (by decide)) (by decide) (by decide)]
    obtain rfl | rfl : i = 0 ∨ i = 1 := by omega
    all_goals rfl
  · obtain rfl : n = 2 := by simpa [pCounts] using hc
    rw [rW_plain _ _ (e25 rfl (by decide)) (by decide) (by decide)]
    obtain rfl | rfl : i = 0 ∨ i = 1 := by omega
    all_goals rfl
  · obtain rfl : n = 2 := by simpa [pCounts] using hc
    rw [rW_plain _ _ (e25 rfl (by decide)) (by decide) (by decide)]
    obtain rfl | rfl : i = 0 ∨ i = 1 := by omega
    all_goals rfl
  · obtain rfl : n = 2 := by simpa [pCounts] using hc
    rw [rW_plain _ _ (e25 rfl (by decide)) (by decide) (by decide)]
    obtain rfl | rfl : i = 0 ∨ i = 1 := by omega
    all_goals rfl
  -- 29
  · have hn : n = 2 ∨ n = 3 := by simpa [pCounts] using hc
    rw [rW_plain _ _ (e25 rfl (by decide)) (by decide) (by decide)]
    rcases hn with rfl | rfl
    · obtain rfl | rfl : i = 0 ∨ i = 1 := by omega
      all_goals rfl
    · obtain rfl | rfl | rfl : i = 0 ∨ i = 1 ∨ i = 2 := by omega
      all_goals rfl

/-- Is a node amiss, as the document asks it? -/
def awayB (op : Int) (loop : Bool) : Bool := (op == 45 || op == 46) && !loop
def oBad (st cn fv : Bool) (nm : Int) (aw : Bool) : Bool := !st || !cn || !fv || nm == 2 || aw
theorem pOwn_doc (x : Nd) (role : Int) (h0 : 0 ≤ role) (h8 : role ≤ 8) (loop : Bool) : pOwn x role loop = if oBad (pStands x.op role) (dCounts x.op x.l.length) (fairV x.op x.v) (dNamed x.op x.s) (awayB x.op loop) then 103 else if dNamed x.op x.s = 1 then 106 else 0 := by
  have hst := dCounts_eq x.op x.l.length role h0 h8
  have hp : pOwn x role loop = if ownBad (fair1 (pStands x.op role) loop x.op && fairV x.op x.v) (pCounts x.op x.l.length) (pNamed x.op).1 x.s.toList.isEmpty then 103 else if ownBad2 (pNamed x.op).1 (pName x.s) (pNamed x.op).2 x.s.toList.isEmpty then 106 else 0 := rfl
  rw [hp]
  have hnm : (dNamed x.op x.s = 2 ↔ (!(pNamed x.op).1 && !x.s.toList.isEmpty) = true) ∧ (dNamed x.op x.s = 1 ↔ ownBad2 (pNamed x.op).1 (pName x.s) (pNamed x.op).2 x.s.toList.isEmpty = true) := by
    unfold dNamed pNamed ownBad2
    by_cases h1 : x.op = 2 ∨ x.op = 24 ∨ x.op = 42 ∨ x.op = 43
    · rw [if_pos h1, if_pos h1]
      cases pName x.s <;> cases x.s.toList.isEmpty <;> simp
    · rw [if_neg h1, if_neg h1]
      by_cases h2 : x.op = 50
      · rw [if_pos h2, if_pos h2]
        cases pName x.s <;> cases x.s.toList.isEmpty <;> simp
      · rw [if_neg h2, if_neg h2]
        cases x.s.toList.isEmpty <;> simp
  obtain ⟨hn2, hn1⟩ := hnm
  have haw : fair1 (pStands x.op role) loop x.op = (pStands x.op role && !awayB x.op loop) := by
    unfold fair1 awayB
    cases loop
    · cases h45 : (x.op == 45) <;> cases h46 : (x.op == 46) <;> simp [bne, h45, h46]
    · simp
  rw [haw]
  have hob : (oBad (pStands x.op role) (dCounts x.op x.l.length) (fairV x.op x.v) (dNamed x.op x.s) (awayB x.op loop)) = ownBad (pStands x.op role && !awayB x.op loop && fairV x.op x.v) (pCounts x.op x.l.length) (pNamed x.op).1 x.s.toList.isEmpty := by
    have hb2 : (dNamed x.op x.s == 2) = (!(pNamed x.op).1 && !x.s.toList.isEmpty) := by
      rw [Bool.eq_iff_iff, beq_iff_eq]
      exact hn2
    unfold oBad ownBad
    rw [hb2]
    cases hs : pStands x.op role
    · simp
    · rw [hst hs]
      cases pCounts x.op x.l.length <;> cases fairV x.op x.v <;> cases awayB x.op loop <;> simp
  rw [hob]
  by_cases hb : ownBad2 (pNamed x.op).1 (pName x.s) (pNamed x.op).2 x.s.toList.isEmpty = true
  · rw [if_pos (hn1.2 hb), if_pos hb]
  · rw [if_neg (fun h => hb (hn1.1 h)), if_neg hb]

/-- A loop's flag, as the document gives it to all that a node has. -/
def dLoop (op : Int) (loop : Bool) : Bool := if op = 42 ∨ op = 43 ∨ op = 44 then true else if op = 48 then false else loop
theorem expr_op {op role : Int} (h0 : 0 ≤ role) (h5 : role ≤ 5) (h : pStands op role = true) : 1 ≤ op ∧ op ≤ 29 := by
  have hr : role = 0 ∨ role = 1 ∨ role = 2 ∨ role = 3 ∨ role = 4 ∨ role = 5 := by omega
  rcases hr with rfl | rfl | rfl | rfl | rfl | rfl
  all_goals simp [pStands, isExpr] at h
  all_goals omega
def RangeOk5 (l : List Int) : Prop := ∀ r ∈ l, 0 ≤ r ∧ r ≤ 5
theorem RangeOk5.ite {c : Prop} [Decidable c] {a b : List Int} (ha : RangeOk5 a) (hb : RangeOk5 b) : RangeOk5 (if c then a else b) := by
  split
  · exact ha
  · exact hb
theorem RangeOk5.rep (n : Nat) {a : Int} (h0 : 0 ≤ a) (h8 : a ≤ 5) : RangeOk5 (List.replicate n a) := fun r hr => by rw [(List.mem_replicate.1 hr).2]; exact ⟨h0, h8⟩
theorem RangeOk5.append {a b : List Int} (ha : RangeOk5 a) (hb : RangeOk5 b) : RangeOk5 (a ++ b) := fun r hr => (List.mem_append.1 hr).elim (ha r) (hb r)
theorem RangeOk5.set {a : List Int} (ha : RangeOk5 a) (i : Nat) {x : Int} (h0 : 0 ≤ x) (h8 : x ≤ 5) : RangeOk5 (a.set i x) := fun r hr => (List.mem_or_eq_of_mem_set hr).elim (ha r) fun e => by rw [e]; exact ⟨h0, h8⟩
theorem RangeOk5.take {a : List Int} (ha : RangeOk5 a) (n : Nat) : RangeOk5 (a.take n) := fun r hr => ha r (List.mem_of_mem_take hr)
theorem RangeOk5.nil : RangeOk5 [] := fun r hr => by cases hr
theorem RangeOk5.cons {a : Int} {l : List Int} (h0 : 0 ≤ a) (h8 : a ≤ 5) (h : RangeOk5 l) : RangeOk5 (a :: l) := fun r hr => by
  rcases List.mem_cons.1 hr with rfl | h'
  · exact ⟨h0, h8⟩
  · exact h r h'
theorem expr_roles (op : Int) (n : Nat) (h1 : 1 ≤ op) (h2 : op ≤ 29) : ∀ r ∈ pRoles op n, 0 ≤ r ∧ r ≤ 5 := by
  have h : RangeOk5 (pRoles op n) := by
    unfold pRoles
    have n41 : ¬ op = 41 := by omega
    have n49 : ¬ op = 49 := by omega
    have n43 : ¬ op = 43 := by omega
    have n42 : ¬ (op = 42 ∨ op = 44 ∨ op = 48) := by omega
    have n50 : ¬ op = 50 := by omega
    have n51 : ¬ op = 51 := by omega
    have n52 : ¬ op = 52 := by omega
    rw [if_neg n43, if_neg n41, if_neg n49, if_neg n52, if_neg n42, if_neg n50, if_neg n51]
    repeat' first | exact RangeOk5.nil | refine RangeOk5.ite ?_ ?_ | refine RangeOk5.rep _ (by decide) (by decide) | refine RangeOk5.append ?_ ?_ | refine RangeOk5.set ?_ _ (by decide) (by decide) | refine RangeOk5.take ?_ _ | refine RangeOk5.cons (by decide) (by decide) ?_
  exact h
theorem rW_expr {role op : Int} {i : Nat} {r : Int} (h0 : 0 ≤ r) (h5 : r ≤ 5) : 0 ≤ rW role op i r ∧ rW role op i r ≤ 5 := by
  unfold rW
  split
  · omega
  split
  · omega
  split <;> omega
mutual
/-- Where no statement can be, the loop's flag is nothing. -/
theorem walk_flag : ∀ (x : Nd) (role : Int) (lp : Bool), 0 ≤ role → role ≤ 5 → pWalk x role lp = pWalk x role true
  | .mk op ln s v l, role, lp, h0, h5 => by
    have hown : pOwn (.mk op ln s v l) role lp = pOwn (.mk op ln s v l) role true := by
      have hf : fair1 (pStands op role) lp op = fair1 (pStands op role) true op := by
        unfold fair1
        cases hs : pStands op role
        · rfl
        · have := expr_op h0 h5 hs
          have e1 : (op != 45) = true := by rw [bne_iff_ne]; omega
          have e2 : (op != 46) = true := by rw [bne_iff_ne]; omega
          rw [e1, e2]
          cases lp <;> rfl
      show (if ownBad (fair1 (pStands op role) lp op && fairV op v) (pCounts op l.length) (pNamed op).1 s.toList.isEmpty then 103 else if ownBad2 (pNamed op).1 (pName s) (pNamed op).2 s.toList.isEmpty then 106 else 0) = _
      rw [hf]
      rfl
    rw [pWalk, pWalk, hown]
    by_cases hz : pOwn (.mk op ln s v l) role true = 0
    · rw [if_pos hz, if_pos hz]
      have hs : pStands op role = true := by
        cases hs : pStands op role
        · exfalso
          have : pOwn (.mk op ln s v l) role true = if ownBad (fair1 (pStands op role) true op && fairV op v) (pCounts op l.length) (pNamed op).1 s.toList.isEmpty then 103 else if ownBad2 (pNamed op).1 (pName s) (pNamed op).2 s.toList.isEmpty then 106 else 0 := rfl
          rw [this, hs] at hz
          simp [fair1, ownBad] at hz
        · rfl
      have ho := expr_op h0 h5 hs
      exact walkL_flag l op role lp true (pRoles op l.length) 0 ho.1 ho.2 (expr_roles op _ ho.1 ho.2)
    · rw [if_neg hz, if_neg hz]
theorem walkL_flag : ∀ (l : List Nd) (op role : Int) (lp lq : Bool) (R : List Int) (i : Nat), 1 ≤ op → op ≤ 29 → (∀ r ∈ R, 0 ≤ r ∧ r ≤ 5) → pWalkL op role lp R i l = pWalkL op role lq R i l
  | [], op, role, lp, lq, R, i, h1, h2, hR => by rw [pWalkL, pWalkL]
  | y :: r, op, role, lp, lq, R, i, h1, h2, hR => by
    have hrr : 0 ≤ R.getD i 0 ∧ R.getD i 0 ≤ 5 := by
      by_cases h : i < R.length
      · have : R.getD i 0 = R[i] := by simp [List.getD, h]
        rw [this]
        exact hR _ (List.getElem_mem h)
      · simp [List.getD, List.getElem?_eq_none (Nat.le_of_not_lt h)]
    have hw := rW_expr (role := role) (op := op) (i := i) hrr.1 hrr.2
    have e1 := walk_flag y (rW role op i (R.getD i 0)) (inW op lp (rW role op i (R.getD i 0))) hw.1 hw.2
    have e2 := walk_flag y (rW role op i (R.getD i 0)) (inW op lq (rW role op i (R.getD i 0))) hw.1 hw.2
    rw [pWalkL_cons, pWalkL_cons, e1, e2, walkL_flag r op role lp lq R (i + 1) h1 h2 hR]
end
end Go.Proofs.YteihmagldhmjgaaDoor
