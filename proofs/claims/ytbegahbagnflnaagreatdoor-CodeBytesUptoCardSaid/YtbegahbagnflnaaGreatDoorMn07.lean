import Derived.Test.YtbegahbagnflnaaGreatDoorMn03
import Derived.Test.YtbegahbagnflnaaGreatDoorMn04
import Derived.Test.YtbegahbagnflnaaGreatDoorMn06
import Derived.Deep.CutRange
import Derived.Deep.CutBlock
set_option linter.unusedSimpArgs false
set_option linter.unusedVariables false
set_option linter.unnecessarySimpa false
namespace Go.Proofs.YtbegahbagnflnaaGreatDoor
section
open Go.RowKit
def pCounts (op : Int) (n : Nat) : Bool :=
 if op = 1 ∨ op = 2 ∨ op = 45 ∨ op = 46 then decide (n = 0) else if op = 3 ∨ op = 4 ∨ op = 26 ∨ op = 40 then decide (n = 1) else if (5 ≤ op ∧ op ≤ 18) ∨ op = 20 ∨ op = 22 then decide (n = 2)
 else if op = 19 ∨ op = 21 ∨ op = 43 then decide (n = 3) else if op = 23 ∨ op = 28 ∨ op = 41 ∨ op = 49 then decide (2 ≤ n) else if op = 24 ∨ op = 25 ∨ op = 52 then true
 else if op = 27 ∨ op = 42 ∨ op = 44 ∨ op = 48 ∨ op = 50 ∨ op = 51 then decide (n = 2) else if op = 29 then decide (n = 2) || decide (n = 3) else if op = 47 then decide (n ≤ 1) else false
def pRoles (op : Int) (n : Nat) : List Int :=
 if op = 1 ∨ op = 2 ∨ op = 45 ∨ op = 46 then [] else if op = 3 ∨ op = 4 ∨ op = 26 ∨ op = 40 then List.replicate 1 0 else if (5 ≤ op ∧ op ≤ 18) ∨ op = 20 ∨ op = 22 then List.replicate 2 0
 else if op = 19 ∨ op = 21 then List.replicate 3 0 else if op = 43 then [0, 0, 6] else if op = 23 then List.replicate 2 0 ++ List.replicate (n - 2) 1 else if op = 28 then (List.replicate (n - 1) 3).set (n - 2) 4 ++ [0]
 else if op = 41 then ifL n else if op = 49 then 6 :: List.replicate (n - 1) 8 else if op = 24 ∨ op = 25 then List.replicate n 1 else if op = 52 then List.replicate n 7
 else if op = 27 then [2, 0] else if op = 42 ∨ op = 44 ∨ op = 48 then [0, 6] else if op = 50 then [5, 6] else if op = 51 then [6, 6] else if op = 29 then [0, 5, 0].take n else if op = 47 then List.replicate n 0 else []
set_option maxRecDepth 100000 in
set_option maxHeartbeats 3200000 in
theorem roles_any (op ln vk vn : Int) (s vs : ByteArray) (va : Value) (la : Option Addr) (n lc : Nat) (hn : n ≤ 1048576) (w : World) : Calls Tryz.prog 111 #[.agg #[.int .i64 op, .int .i64 ln, .string s, .int .i64 vk, .int .i64 vn, .string vs, va, .slice la n lc]] w (RolesPostC w (pRoles op n) (pCounts op n)) := by
 have hop : op < 1 ∨ 29 < op ∧ op < 40 ∨ 52 < op ∨ op = 1 ∨ op = 2 ∨ op = 3 ∨ op = 4 ∨ op = 5 ∨ op = 6 ∨ op = 7 ∨ op = 8 ∨ op = 9 ∨ op = 10 ∨ op = 11 ∨ op = 12 ∨ op = 13 ∨ op = 14 ∨ op = 15 ∨ op = 16 ∨ op = 17 ∨ op = 18 ∨ op = 19 ∨ op = 20 ∨ op = 21 ∨ op = 22 ∨ op = 23 ∨ op = 24 ∨ op = 25 ∨ op = 26 ∨ op = 27 ∨ op = 28 ∨ op = 29 ∨ op = 40 ∨ op = 41 ∨ op = 42 ∨ op = 43 ∨ op = 44 ∨ op = 45 ∨ op = 46 ∨ op = 47 ∨ op = 48 ∨ op = 49 ∨ op = 50 ∨ op = 51 ∨ op = 52 := by omega
 rcases hop with h | h | h | rfl | rfl | rfl | rfl | rfl | rfl | rfl | rfl | rfl | rfl | rfl | rfl | rfl | rfl | rfl | rfl | rfl | rfl | rfl | rfl | rfl | rfl | rfl | rfl | rfl | rfl | rfl | rfl | rfl | rfl | rfl | rfl | rfl | rfl | rfl | rfl | rfl | rfl | rfl | rfl | rfl | rfl
 ·have hc : pCounts op n = false := by unfold pCounts; repeat rw [if_neg (by omega)]
  rw [hc]
  exact (rolesD_any op ln vk vn s vs va la n lc (by omega) hn w).mono fun e w' h => by obtain ⟨v, h1, h2, h3⟩ := h; exact ⟨v, h1, h2, fun h => by cases h⟩
 ·have hc : pCounts op n = false := by unfold pCounts; repeat rw [if_neg (by omega)]
  rw [hc]
  exact (rolesD_any op ln vk vn s vs va la n lc (by omega) hn w).mono fun e w' h => by obtain ⟨v, h1, h2, h3⟩ := h; exact ⟨v, h1, h2, fun h => by cases h⟩
 ·have hc : pCounts op n = false := by unfold pCounts; repeat rw [if_neg (by omega)]
  rw [hc]
  exact (rolesD_any op ln vk vn s vs va la n lc (by omega) hn w).mono fun e w' h => by obtain ⟨v, h1, h2, h3⟩ := h; exact ⟨v, h1, h2, fun h => by cases h⟩
 ·exact (roles0_any 1 ln vk vn s vs va la n lc (by decide) hn w).mono fun e w' h => h.weak
 ·exact (roles0_any 2 ln vk vn s vs va la n lc (by decide) hn w).mono fun e w' h => h.weak
 ·exact (roles1_any 3 ln vk vn s vs va la n lc (by decide) hn w).mono fun e w' h => h.weak
 ·exact (roles1_any 4 ln vk vn s vs va la n lc (by decide) hn w).mono fun e w' h => h.weak
 ·exact (roles2_any 5 ln vk vn s vs va la n lc (by decide) hn w).mono fun e w' h => h.weak
 ·exact (roles2_any 6 ln vk vn s vs va la n lc (by decide) hn w).mono fun e w' h => h.weak
 ·exact (roles2_any 7 ln vk vn s vs va la n lc (by decide) hn w).mono fun e w' h => h.weak
 ·exact (roles2_any 8 ln vk vn s vs va la n lc (by decide) hn w).mono fun e w' h => h.weak
 ·exact (roles2_any 9 ln vk vn s vs va la n lc (by decide) hn w).mono fun e w' h => h.weak
 ·exact (roles2_any 10 ln vk vn s vs va la n lc (by decide) hn w).mono fun e w' h => h.weak
 ·exact (roles2_any 11 ln vk vn s vs va la n lc (by decide) hn w).mono fun e w' h => h.weak
 ·exact (roles2_any 12 ln vk vn s vs va la n lc (by decide) hn w).mono fun e w' h => h.weak
 ·exact (roles2_any 13 ln vk vn s vs va la n lc (by decide) hn w).mono fun e w' h => h.weak
 ·exact (roles2_any 14 ln vk vn s vs va la n lc (by decide) hn w).mono fun e w' h => h.weak
 ·exact (roles2_any 15 ln vk vn s vs va la n lc (by decide) hn w).mono fun e w' h => h.weak
 ·exact (roles2_any 16 ln vk vn s vs va la n lc (by decide) hn w).mono fun e w' h => h.weak
 ·exact (roles2_any 17 ln vk vn s vs va la n lc (by decide) hn w).mono fun e w' h => h.weak
 ·exact (roles2_any 18 ln vk vn s vs va la n lc (by decide) hn w).mono fun e w' h => h.weak
 ·exact (roles3_any 19 ln vk vn s vs va la n lc (by decide) hn w).mono fun e w' h => h.weak
 ·exact (roles2_any 20 ln vk vn s vs va la n lc (by decide) hn w).mono fun e w' h => h.weak
 ·exact (roles3_any 21 ln vk vn s vs va la n lc (by decide) hn w).mono fun e w' h => h.weak
 ·exact (roles2_any 22 ln vk vn s vs va la n lc (by decide) hn w).mono fun e w' h => h.weak
 ·exact (roles23_any 23 ln vk vn s vs va la n lc (by decide) hn w)
 ·exact (roles24_any 24 ln vk vn s vs va la n lc (by decide) hn w)
 ·exact (roles24_any 25 ln vk vn s vs va la n lc (by decide) hn w)
 ·exact (roles1_any 26 ln vk vn s vs va la n lc (by decide) hn w).mono fun e w' h => h.weak
 ·exact (roles27_any 27 ln vk vn s vs va la n lc (by decide) hn w).mono fun e w' h => h.weak
 ·exact (roles28_any 28 ln vk vn s vs va la n lc (by decide) hn w)
 ·exact (roles29_any 29 ln vk vn s vs va la n lc (by decide) hn w)
 ·exact (roles1_any 40 ln vk vn s vs va la n lc (by decide) hn w).mono fun e w' h => h.weak
 ·exact (roles41_any 41 ln vk vn s vs va la n lc (by decide) hn w)
 ·exact (roles42_any 42 ln vk vn s vs va la n lc (by decide) hn w).mono fun e w' h => h.weak
 ·exact (roles43_any 43 ln vk vn s vs va la n lc (by decide) hn w).mono fun e w' h => h.weak
 ·exact (roles42_any 44 ln vk vn s vs va la n lc (by decide) hn w).mono fun e w' h => h.weak
 ·exact (roles0_any 45 ln vk vn s vs va la n lc (by decide) hn w).mono fun e w' h => h.weak
 ·exact (roles0_any 46 ln vk vn s vs va la n lc (by decide) hn w).mono fun e w' h => h.weak
 ·exact (roles47_any 47 ln vk vn s vs va la n lc (by decide) hn w)
 ·exact (roles42_any 48 ln vk vn s vs va la n lc (by decide) hn w).mono fun e w' h => h.weak
 ·exact (roles49_any 49 ln vk vn s vs va la n lc (by decide) hn w)
 ·exact (roles50_any 50 ln vk vn s vs va la n lc (by decide) hn w).mono fun e w' h => h.weak
 ·exact (roles51_any 51 ln vk vn s vs va la n lc (by decide) hn w).mono fun e w' h => h.weak
 ·exact (roles52_any 52 ln vk vn s vs va la n lc (by decide) hn w)
def fair1 (st loop : Bool) (op : Int) : Bool := st && (loop || (op != 45 && op != 46))
def litOk (v : V) : Bool := v.k != 4 && decide (v.valid = 0) && (v.k != 0 || v.n != -9223372036854775808)
def noV (v : V) : Bool := v.k == 0 && v.n == 0 && v.s.toList.isEmpty && decide (v.l.length = 0)
def fairV (op : Int) (v : V) : Bool := if op = 1 then litOk v else noV v
def ownBad (f full is e : Bool) : Bool := !f || !full || (!is && !e)
def ownBad2 (is nm em e : Bool) : Bool := is && !nm && !(em && e)
def pOwn (x : Nd) (role : Int) (loop : Bool) : Nat :=
 if ownBad (fair1 (pStands x.op role) loop x.op && fairV x.op x.v) (pCounts x.op x.l.length) (pNamed x.op).1 x.s.toList.isEmpty then 103 else if ownBad2 (pNamed x.op).1 (pName x.s) (pNamed x.op).2 x.s.toList.isEmpty then 106 else 0
theorem ev_nil {pa : Nat → Addr} {n : Int} : (n = 0 → ev (errV pa 112) (errV pa 104) (errV pa 105) (errV pa 103) n = .nilIface) ∧ (n ≠ 0 → ∃ a, ev (errV pa 112) (errV pa 104) (errV pa 105) (errV pa 103) n = .iface 200 (.pointer (some a))) := by
 constructor
 ·rintro rfl; rfl
 ·intro h
  unfold ev
  rw [if_neg h]
  split
  ·exact ⟨_, rfl⟩
  split
  ·exact ⟨_, rfl⟩
  split
  ·exact ⟨_, rfl⟩
  exact ⟨_, rfl⟩
end
section
open Go.RowKit
mutual
def Nd.sz : Nd → Nat
 | .mk _ _ s v l => 1 + s.size + v.size + szL l
def szL : List Nd → Nat
 | [] => 0
 | x :: r => Nd.sz x + szL r
end
theorem Nd.sz_eq (x : Nd) : x.sz = 1 + x.s.size + x.v.size + szL x.l := by cases x; simp [Nd.sz, Nd.l, Nd.s, Nd.v]
theorem szL_mem : ∀ {l : List Nd} {k : Nat} {x : Nd}, l[k]? = some x → x.sz ≤ szL l
 | [], k, x, h => by simp at h
 | y :: r, 0, x, h => by
  simp at h
  subst h
  simp [szL]
 | y :: r, k + 1, x, h => by
  have := szL_mem (l := r) (k := k) (by simpa using h)
  simp only [szL]
  omega
mutual
theorem Nd.cnt_sz : ∀ (x : Nd), x.cnt ≤ x.sz
 | .mk _ _ s v l => by
  have := cntL_szL l
  simp only [Nd.sz, Nd.cnt]
  omega
theorem cntL_szL : ∀ (l : List Nd), cntL l ≤ szL l
 | [] => by simp [cntL]
 | x :: r => by
  have h1 := Nd.cnt_sz x
  have h2 := cntL_szL r
  simp only [szL, cntL]
  omega
end
def rW (role op : Int) (i : Nat) (r : Int) : Int := if role = 5 then 0 else if role = 2 ∧ op = 20 ∧ i = 0 then 2 else if role = 4 ∧ op = 26 then 3 else r
def inW (op : Int) (loop : Bool) (r : Int) : Bool := (loop && op != 48) || (pLoops op && r == 6)
mutual
def pWalk : Nd → Int → Bool → Nat × Int
 | .mk op ln s v l, role, loop => if pOwn (.mk op ln s v l) role loop = 0 then pWalkL op role loop (pRoles op l.length) 0 l else (pOwn (.mk op ln s v l) role loop, ln)
def pWalkL (op role : Int) (loop : Bool) (R : List Int) : Nat → List Nd → Nat × Int
 | _, [] => (0, 0)
 | i, y :: r => if (pWalk y (rW role op i (R.getD i 0)) (inW op loop (rW role op i (R.getD i 0)))).1 = 0 then pWalkL op role loop R (i + 1) r else pWalk y (rW role op i (R.getD i 0)) (inW op loop (rW role op i (R.getD i 0)))
end
theorem pWalk_eq (x : Nd) (role : Int) (loop : Bool) : pWalk x role loop = if pOwn x role loop = 0 then pWalkL x.op role loop (pRoles x.op x.l.length) 0 x.l else (pOwn x role loop, x.ln) := by
 obtain ⟨op, ln, s, v, l⟩ := x
 rw [pWalk]
 rfl
theorem pWalkL_nil (op role : Int) (loop : Bool) (R : List Int) (i : Nat) : pWalkL op role loop R i [] = (0, 0) := by rw [pWalkL]
theorem pWalkL_cons (op role : Int) (loop : Bool) (R : List Int) (i : Nat) (y : Nd) (r : List Nd) : pWalkL op role loop R i (y :: r) = if (pWalk y (rW role op i (R.getD i 0)) (inW op loop (rW role op i (R.getD i 0)))).1 = 0 then pWalkL op role loop R (i + 1) r else pWalk y (rW role op i (R.getD i 0)) (inW op loop (rW role op i (R.getD i 0))) := by rw [pWalkL]
theorem drop_at {l : List Nd} {k : Nat} {y : Nd} (h : l[k]? = some y) : l.drop k = y :: l.drop (k + 1) := by
 obtain ⟨hk, rfl⟩ := List.getElem?_eq_some_iff.1 h
 exact (List.drop_eq_getElem_cons hk)
theorem pWalkL_step {op role : Int} {loop : Bool} {R : List Int} {l : List Nd} {k : Nat} {y : Nd} (h : l[k]? = some y) : pWalkL op role loop R k (l.drop k) = if (pWalk y (rW role op k (R.getD k 0)) (inW op loop (rW role op k (R.getD k 0)))).1 = 0 then pWalkL op role loop R (k + 1) (l.drop (k + 1)) else pWalk y (rW role op k (R.getD k 0)) (inW op loop (rW role op k (R.getD k 0))) := by
 rw [drop_at h, pWalkL_cons]
def AtV (pa : Nat → Addr) (w : World) (q : Nat × Int) (v : Value) : Prop :=
 (q.1 = 0 ∧ v = .nilIface) ∨ (q.1 ≠ 0 ∧ ∃ b, v = .iface 123 (.pointer (some ⟨b, 0, none⟩)) ∧ w.heap[b]? = some (.cells #[.int .i64 q.2, errV pa q.1] 126))
theorem ifL_length (n : Nat) : (ifL n).length = n := by
 unfold ifL
 split <;> simp
theorem pRoles_len (op : Int) (n : Nat) (h : pCounts op n = true) : (pRoles op n).length = n := by
 unfold pCounts at h
 unfold pRoles
 have hop : op = 1 ∨ op = 2 ∨ op = 45 ∨ op = 46 ∨ op = 3 ∨ op = 4 ∨ op = 26 ∨ op = 40 ∨ (5 ≤ op ∧ op ≤ 18) ∨ op = 20 ∨ op = 22 ∨ op = 19 ∨ op = 21 ∨ op = 43 ∨ op = 23 ∨ op = 28 ∨ op = 41 ∨ op = 49 ∨ op = 24 ∨ op = 25 ∨ op = 52 ∨ op = 27 ∨ op = 42 ∨ op = 44 ∨ op = 48 ∨ op = 50 ∨ op = 51 ∨ op = 29 ∨ op = 47 ∨ (¬ (op = 1 ∨ op = 2 ∨ op = 45 ∨ op = 46) ∧ ¬ (op = 3 ∨ op = 4 ∨ op = 26 ∨ op = 40) ∧ ¬ ((5 ≤ op ∧ op ≤ 18) ∨ op = 20 ∨ op = 22) ∧ ¬ (op = 19 ∨ op = 21 ∨ op = 43) ∧ ¬ (op = 23 ∨ op = 28 ∨ op = 41 ∨ op = 49) ∧ ¬ (op = 24 ∨ op = 25 ∨ op = 52) ∧ ¬ (op = 27 ∨ op = 42 ∨ op = 44 ∨ op = 48 ∨ op = 50 ∨ op = 51) ∧ op ≠ 29 ∧ op ≠ 47) := by omega
 rcases hop with rfl | rfl | rfl | rfl | rfl | rfl | rfl | rfl | ⟨h1, h2⟩ | rfl | rfl | rfl | rfl | rfl | rfl | rfl | rfl | rfl | rfl | rfl | rfl | rfl | rfl | rfl | rfl | rfl | rfl | rfl | rfl | ⟨a1, a2, a3, a4, a5, a6, a7, a8, a9⟩
 case inr.inr.inr.inr.inr.inr.inr.inr.inl =>
  rw [if_neg (by omega), if_neg (by omega), if_pos (by omega)] at h
  rw [if_neg (by omega), if_neg (by omega), if_pos (by omega)]
  simp at h
  simp [h]
 case inr.inr.inr.inr.inr.inr.inr.inr.inr.inr.inr.inr.inr.inr.inr.inr.inr.inr.inr.inr.inr.inr.inr.inr.inr.inr.inr.inr.inr => rw [if_neg a1, if_neg a2, if_neg a3, if_neg a4, if_neg a5, if_neg a6, if_neg a7, if_neg a8, if_neg a9] at h; cases h
 all_goals simp [ifL_length] at h ⊢
 all_goals omega
end
section
open Go.RowKit
theorem pOwn_cases (x : Nd) (role : Int) (loop : Bool) : (pOwn x role loop = 0 ∧ pCounts x.op x.l.length = true) ∨ pOwn x role loop = 103 ∨ pOwn x role loop = 106 := by
 unfold pOwn
 cases h : pCounts x.op x.l.length
 ·rw [if_pos (by simp [ownBad])]
  exact .inr (.inl rfl)
 ·split
  ·exact .inr (.inl rfl)
  split
  ·exact .inr (.inr rfl)
  exact .inl ⟨rfl, rfl⟩
theorem rW_range {role op : Int} {i : Nat} {r : Int} (h0 : 0 ≤ r) (h8 : r ≤ 8) : 0 ≤ rW role op i r ∧ rW role op i r ≤ 8 := by
 unfold rW
 split
 ·omega
 split
 ·omega
 split <;> omega
def RangeOk (l : List Int) : Prop := ∀ r ∈ l, 0 ≤ r ∧ r ≤ 8
theorem RangeOk.ite {c : Prop} [Decidable c] {a b : List Int} (ha : RangeOk a) (hb : RangeOk b) : RangeOk (if c then a else b) := by
 split
 ·exact ha
 ·exact hb
theorem RangeOk.rep (n : Nat) {a : Int} (h0 : 0 ≤ a) (h8 : a ≤ 8) : RangeOk (List.replicate n a) := fun r hr => by rw [(List.mem_replicate.1 hr).2]; exact ⟨h0, h8⟩
theorem RangeOk.append {a b : List Int} (ha : RangeOk a) (hb : RangeOk b) : RangeOk (a ++ b) := fun r hr => (List.mem_append.1 hr).elim (ha r) (hb r)
theorem RangeOk.set {a : List Int} (ha : RangeOk a) (i : Nat) {x : Int} (h0 : 0 ≤ x) (h8 : x ≤ 8) : RangeOk (a.set i x) := fun r hr => (List.mem_or_eq_of_mem_set hr).elim (ha r) fun e => by rw [e]; exact ⟨h0, h8⟩
theorem RangeOk.take {a : List Int} (ha : RangeOk a) (n : Nat) : RangeOk (a.take n) := fun r hr => ha r (List.mem_of_mem_take hr)
theorem RangeOk.ifK (n : Nat) : RangeOk (ifK n) := fun r hr => by
 obtain ⟨i, -, rfl⟩ := List.mem_map.1 hr
 split <;> omega
theorem RangeOk.nil : RangeOk [] := fun r hr => by cases hr
theorem RangeOk.cons {a : Int} {l : List Int} (h0 : 0 ≤ a) (h8 : a ≤ 8) (h : RangeOk l) : RangeOk (a :: l) := fun r hr => by
 rcases List.mem_cons.1 hr with rfl | h'
 ·exact ⟨h0, h8⟩
 ·exact h r h'
theorem pRoles_range (op : Int) (n : Nat) : RangeOk (pRoles op n) := by
 unfold pRoles ifL
 repeat' first | exact RangeOk.nil | exact RangeOk.ifK _ | refine RangeOk.ite ?_ ?_ | refine RangeOk.rep _ (by decide) (by decide) | refine RangeOk.append ?_ ?_ | refine RangeOk.set ?_ _ (by decide) (by decide) | refine RangeOk.take ?_ _ | refine RangeOk.cons (by decide) (by decide) ?_
end
section
open Go.RowKit
def okC (n : Nat) : Prop := n = 0 ∨ n = 103 ∨ n = 106
mutual
theorem pWalk_code : ∀ (x : Nd) (role : Int) (loop : Bool), okC (pWalk x role loop).1
 | .mk op ln s v l, role, loop => by
  rw [pWalk]
  split
  ·exact pWalkL_code l _ _ _ _ _
  ·rcases pOwn_cases (.mk op ln s v l) role loop with ⟨h, -⟩ | h | h
   ·exact .inl h
   ·exact .inr (.inl h)
   ·exact .inr (.inr h)
theorem pWalkL_code : ∀ (l : List Nd) (op role : Int) (loop : Bool) (R : List Int) (i : Nat), okC (pWalkL op role loop R i l).1
 | [], op, role, loop, R, i => by rw [pWalkL]; exact .inl rfl
 | y :: r, op, role, loop, R, i => by
  rw [pWalkL]
  split
  ·exact pWalkL_code r _ _ _ _ _
  ·exact pWalk_code y _ _
end
def pVals (role : Int) : List Nd → Nat × Int
 | [] => (0, 0)
 | y :: r => if (pWalk y role false).1 = 0 then pVals role r else pWalk y role false
theorem pVals_step {role : Int} {l : List Nd} {k : Nat} {y : Nd} (h : l[k]? = some y) : pVals role (l.drop k) = if (pWalk y role false).1 = 0 then pVals role (l.drop (k + 1)) else pWalk y role false := by
 rw [drop_at h, pVals]
structure Flt where
 c : Nat
 p : Bool
 l : Int
def fltAt (q : Nat × Int) : Flt := if q.1 = 0 then ⟨0, false, 0⟩ else ⟨q.1, true, q.2⟩
def ErrIs (pa : Nat → Addr) (w : World) (f : Flt) (v : Value) : Prop :=
 ErrNo f.c ∧ ((f.p = false ∧ f.l = 0 ∧ v = errV pa f.c) ∨ (f.p = true ∧ f.c ≠ 0 ∧ ∃ b, v = .iface 123 (.pointer (some ⟨b, 0, none⟩)) ∧ w.heap[b]? = some (.cells #[.int .i64 f.l, errV pa f.c] 126)))
theorem ErrIs.frame {pa : Nat → Addr} {w w' : World} {f : Flt} {v : Value} (h : ErrIs pa w f v) (hf : Fr (fun _ => False) w w') : ErrIs pa w' f v := by
 obtain ⟨h1, h2 | ⟨h2, h3, b, e, hb⟩⟩ := h
 ·exact ⟨h1, .inl h2⟩
 ·exact ⟨h1, .inr ⟨h2, h3, b, e, hf.heap hb not_false⟩⟩
theorem AtV.err {pa : Nat → Addr} {w : World} {q : Nat × Int} {v : Value} (h : AtV pa w q v) (hc : okC q.1) : ErrIs pa w (fltAt q) v := by
 rcases h with ⟨h, rfl⟩ | ⟨h, b, e, hb⟩
 ·rw [fltAt, if_pos h]
  exact ⟨.inl rfl, .inl ⟨rfl, rfl, rfl⟩⟩
 ·rw [fltAt, if_neg h]
  refine ⟨?_, .inr ⟨rfl, h, b, e, hb⟩⟩
  rcases hc with hc | hc | hc
  ·exact absurd hc h
  ·exact .inr (by simp only [hc]; omega)
  ·exact .inr (by simp only [hc]; omega)
def pValid (l : List Nd) (role : Int) : Flt := if 4096 < cntL l then ⟨104, false, 0⟩ else if 40 < depL l then ⟨112, false, 0⟩ else fltAt (pVals role l)
end
section
open Go.RowKit
end
section
open Go.RowKit
def v0 : V := .mk 0 0 ⟨#[]⟩ []
end
end Go.Proofs.YtbegahbagnflnaaGreatDoor
