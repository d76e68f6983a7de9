/- SeeAt, DocF, CodeL, CodeP, CodeQ: several texts in one: a claim has at most 60 files -/
import Derived.Test.YtbegahbagnflnaaDoorMa11
import Derived.Test.YtbegahbagnflnaaDoorMa12
import Derived.Deep.CutBlock
import Derived.Test.YtbegahbagnflnaaDoorMa08
import Derived.Test.YtbegahbagnflnaaDoorMa10
set_option linter.unusedSimpArgs false
set_option linter.unusedVariables false
set_option linter.unnecessarySimpa false
namespace Go.Proofs.YtbegahbagnflnaaDoor
section
open Go.RowKit

/-- A fault as it lies. -/
def faultV (c : Int) (p : Bool) (l : Int) : Value := .agg #[.int .i64 c, .bool p, .int .i64 l, .int .i64 0, .int .i64 0, .string ⟨#[]⟩, .slice none 0 0]
end
section
open Go.RowKit

def faultQ (q : Nat × Int) : Value := if q.1 = 0 then faultV 0 false 0 else faultV q.1 true q.2
theorem stands_of_own {x : Nd} {role : Int} {loop : Bool} (h : pOwn x role loop = 0) : pStands x.op role = true ∧ pCounts x.op x.l.length = true := by
  constructor
  · cases hs : pStands x.op role
    · exfalso
      have hp : pOwn x role loop = if ownBad (fair1 (pStands x.op role) loop x.op && fairV x.op x.v) (pCounts x.op x.l.length) (pNamed x.op).1 x.s.toList.isEmpty then 103 else if ownBad2 (pNamed x.op).1 (pName x.s) (pNamed x.op).2 x.s.toList.isEmpty then 106 else 0 := rfl
      rw [hp, hs] at h
      simp [fair1, ownBad] at h
    · rfl
  · rcases pOwn_cases x role loop with ⟨-, h'⟩ | h' | h'
    · exact h'
    · omega
    · omega
end
section
/-- The role of a child, for its instructions: 9: the codes of a Catch. -/
def cRole (role op : Int) (i : Nat) (r : Int) : Int := if role = 9 then 0 else if op = 29 ∧ i = 1 then 9 else rW role op i r
/-- How many instructions a node has of its own. -/
def cst (role op : Int) (n : Nat) : Nat :=
  if role = 5 then (if n = 0 then 0 else 4 + n) else if role = 9 then (if n = 0 then 0 else 6 + n) else if role = 8 then 3
  else if role = 7 then 1 + (if op = 40 then 1 else if op = 41 then 2 * (n / 2) else if op = 42 ∨ op = 43 then 4 else if op = 44 then 5 else if op = 45 ∨ op = 46 then 1 else if op = 47 then (if n = 0 then 2 else 1) else if op = 48 then 1 else if op = 49 ∨ op = 51 then 4 else 0)
  else if role = 0 ∨ role = 1 then (if role = 1 then 1 else 0) + (if op = 26 then 0 else if op = 19 then 2 else if op = 23 then 4 else if op = 24 then 3 else if op = 25 then 2 else if op = 29 then (if n = 3 then 4 else 5) else 1)
  else 0
mutual
def lenR : Nd → Int → Nat
  | .mk op _ _ _ l, role => cst role op l.length + lenRL op role (pRoles op l.length) 0 l
def lenRL (op role : Int) (R : List Int) : Nat → List Nd → Nat
  | _, [] => 0
  | i, y :: r => (if op = 48 ∧ i = 1 then 0 else lenR y (cRole role op i (R.getD i 0))) + lenRL op role R (i + 1) r
end
theorem lenR_eq (x : Nd) (role : Int) : lenR x role = cst role x.op x.l.length + lenRL x.op role (pRoles x.op x.l.length) 0 x.l := by
  obtain ⟨op, ln, s, v, l⟩ := x
  rw [lenR]
  rfl
theorem lenRL_nil (op role : Int) (R : List Int) (i : Nat) : lenRL op role R i [] = 0 := by rw [lenRL]
theorem lenRL_cons (op role : Int) (R : List Int) (i : Nat) (y : Nd) (r : List Nd) : lenRL op role R i (y :: r) = (if op = 48 ∧ i = 1 then 0 else lenR y (cRole role op i (R.getD i 0))) + lenRL op role R (i + 1) r := by rw [lenRL]
/-- Nodes of one role. -/
def sumR (role : Int) : List Nd → Nat
  | [] => 0
  | y :: r => lenR y role + sumR role r
theorem sumR_append (role : Int) (a b : List Nd) : sumR role (a ++ b) = sumR role a + sumR role b := by
  induction a with
  | nil => simp [sumR]
  | cons x r ih => simp only [List.cons_append, sumR, ih]; omega
theorem lenRL_const {op role : Int} {R : List Int} {ρ : Int} (h48 : op ≠ 48) : ∀ (l : List Nd) (i : Nat), (∀ k, k < l.length → cRole role op (i + k) (R.getD (i + k) 0) = ρ) → lenRL op role R i l = sumR ρ l
  | [], i, _ => by rw [lenRL_nil]; rfl
  | y :: r, i, h => by
    rw [lenRL_cons, if_neg (fun e => h48 e.1), lenRL_const h48 r (i + 1) fun k hk => by
      have := h (k + 1) (by simp; omega)
      rwa [show i + (k + 1) = i + 1 + k by omega] at this]
    have h0 := h 0 (by simp)
    rw [Nat.add_zero] at h0
    rw [h0]
    rfl
/-- It is right where it stands. -/
def Rt (role : Int) (x : Nd) : Prop := ∃ lp, (pWalk x role lp).1 = 0
theorem pWalkL_all {op role : Int} {lp : Bool} {R : List Int} : ∀ (l : List Nd) (i : Nat), (pWalkL op role lp R i l).1 = 0 → ∀ k y, l[k]? = some y → Rt (rW role op (i + k) (R.getD (i + k) 0)) y
  | [], i, _, k, y, hk => by simp at hk
  | z :: r, i, h, k, y, hk => by
    rw [pWalkL_cons] at h
    by_cases h0 : (pWalk z (rW role op i (R.getD i 0)) (inW op lp (rW role op i (R.getD i 0)))).1 = 0
    · rw [if_pos h0] at h
      cases k with
      | zero =>
        simp at hk
        subst hk
        exact ⟨_, h0⟩
      | succ k =>
        have := pWalkL_all r (i + 1) h k y (by simpa using hk)
        rwa [show i + 1 + k = i + (k + 1) by omega] at this
    · rw [if_neg h0] at h
      exact absurd h h0
theorem Rt.own {role : Int} {x : Nd} (h : Rt role x) : pStands x.op role = true ∧ pCounts x.op x.l.length = true := by
  obtain ⟨lp, h⟩ := h
  rw [pWalk_eq] at h
  split at h
  · rename_i h0
    exact stands_of_own h0
  · rename_i h0
    exact absurd h h0
theorem Rt.kid {role : Int} {x : Nd} (h : Rt role x) {i : Nat} {y : Nd} (hi : x.l[i]? = some y) : Rt (rW role x.op i ((pRoles x.op x.l.length).getD i 0)) y := by
  obtain ⟨lp, h⟩ := h
  rw [pWalk_eq] at h
  split at h
  · have := pWalkL_all x.l 0 h i y hi
    rwa [Nat.zero_add] at this
  · rename_i h0
    exact absurd h h0
theorem len1 {l : List Nd} (h : l.length = 1) : ∃ a, l = [a] := by
  match l, h with
  | [a], _ => exact ⟨a, rfl⟩
theorem len2 {l : List Nd} (h : l.length = 2) : ∃ a b, l = [a, b] := by
  match l, h with
  | [a, b], _ => exact ⟨a, b, rfl⟩
theorem len3 {l : List Nd} (h : l.length = 3) : ∃ a b c, l = [a, b, c] := by
  match l, h with
  | [a, b, c], _ => exact ⟨a, b, c, rfl⟩
theorem Rt.one {x : Nd} {role : Int} (h : Rt role x) (hop : x.op = 3 ∨ x.op = 4) (hr : role = 0) : ∃ a, x.l = [a] ∧ Rt 0 a ∧ lenR x 0 = 1 + lenR a 0 := by
  subst hr
  have hc := h.own.2
  have hk := fun i y => h.kid (i := i) (y := y)
  rw [lenR_eq]
  obtain ⟨op, ln, s, v, l⟩ := x
  simp only [Nd.op, Nd.l] at *
  rcases hop with rfl | rfl
  all_goals
    obtain ⟨a, rfl⟩ := len1 (by simpa [pCounts] using hc)
    exact ⟨a, rfl, by simpa [pRoles, rW] using hk 0 a rfl, by simp [lenRL_cons, lenRL_nil, cst, cRole, rW, pRoles]⟩
theorem Rt.two {x : Nd} (h : Rt 0 x) (hop : (5 ≤ x.op ∧ x.op ≤ 18) ∨ x.op = 20 ∨ x.op = 22) : ∃ a b, x.l = [a, b] ∧ Rt 0 a ∧ Rt 0 b ∧ lenR x 0 = 1 + lenR a 0 + lenR b 0 := by
  have hc := h.own.2
  have hk := fun i y => h.kid (i := i) (y := y)
  rw [lenR_eq]
  obtain ⟨op, ln, s, v, l⟩ := x
  simp only [Nd.op, Nd.l] at *
  have hop2 : op = 5 ∨ op = 6 ∨ op = 7 ∨ op = 8 ∨ op = 9 ∨ op = 10 ∨ op = 11 ∨ op = 12 ∨ op = 13 ∨ op = 14 ∨ op = 15 ∨ op = 16 ∨ op = 17 ∨ op = 18 ∨ op = 20 ∨ op = 22 := by omega
  clear hop
  rcases hop2 with rfl | rfl | rfl | rfl | rfl | rfl | rfl | rfl | rfl | rfl | rfl | rfl | rfl | rfl | rfl | rfl
  all_goals
    obtain ⟨a, b, rfl⟩ := len2 (by simpa [pCounts] using hc)
    exact ⟨a, b, rfl, by simpa [pRoles, rW] using hk 0 a rfl, by simpa [pRoles, rW] using hk 1 b rfl, by simp [lenRL_cons, lenRL_nil, cst, cRole, rW, pRoles]; omega⟩
theorem Rt.three {x : Nd} (h : Rt 0 x) (hop : x.op = 19 ∨ x.op = 21) : ∃ a b c, x.l = [a, b, c] ∧ Rt 0 a ∧ Rt 0 b ∧ Rt 0 c ∧ lenR x 0 = (if x.op = 19 then 2 else 1) + lenR a 0 + lenR b 0 + lenR c 0 := by
  have hc := h.own.2
  have hk := fun i y => h.kid (i := i) (y := y)
  rw [lenR_eq]
  obtain ⟨op, ln, s, v, l⟩ := x
  simp only [Nd.op, Nd.l] at *
  rcases hop with rfl | rfl
  all_goals
    obtain ⟨a, b, c, rfl⟩ := len3 (by simpa [pCounts] using hc)
    exact ⟨a, b, c, rfl, by simpa [pRoles, rW] using hk 0 a rfl, by simpa [pRoles, rW] using hk 1 b rfl, by simpa [pRoles, rW] using hk 2 c rfl, by simp [lenRL_cons, lenRL_nil, cst, cRole, rW, pRoles]; omega⟩
theorem pWalkL_role {op r1 r2 : Int} {lp : Bool} {R : List Int} (h : ∀ i, rW r1 op i (R.getD i 0) = rW r2 op i (R.getD i 0)) : ∀ (l : List Nd) (i : Nat), pWalkL op r1 lp R i l = pWalkL op r2 lp R i l
  | [], i => by rw [pWalkL_nil, pWalkL_nil]
  | y :: r, i => by rw [pWalkL_cons, pWalkL_cons, h i, pWalkL_role h r (i + 1)]
theorem lenRL_role {op r1 r2 : Int} {R : List Int} (h : ∀ i, cRole r1 op i (R.getD i 0) = cRole r2 op i (R.getD i 0)) : ∀ (l : List Nd) (i : Nat), lenRL op r1 R i l = lenRL op r2 R i l
  | [], i => by rw [lenRL_nil, lenRL_nil]
  | y :: r, i => by rw [lenRL_cons, lenRL_cons, h i, lenRL_role h r (i + 1)]
theorem Rt.splice {y : Nd} (h : Rt 1 y) (hop : y.op = 26) : ∃ a, y.l = [a] ∧ Rt 0 a ∧ lenR y 1 = 1 + lenR a 0 := by
  have hc := h.own.2
  have hk := fun i z => h.kid (i := i) (y := z)
  rw [lenR_eq]
  obtain ⟨op, ln, s, v, l⟩ := y
  simp only [Nd.op, Nd.l] at *
  subst hop
  obtain ⟨a, rfl⟩ := len1 (by simpa [pCounts] using hc)
  exact ⟨a, rfl, by simpa [pRoles, rW] using hk 0 a rfl, by simp [lenRL_cons, lenRL_nil, cst, cRole, rW, pRoles]⟩
theorem Rt.item {y : Nd} (h : Rt 1 y) (hop : y.op ≠ 26) : Rt 0 y ∧ lenR y 1 = 1 + lenR y 0 := by
  constructor
  · obtain ⟨lp, h⟩ := h
    refine ⟨lp, ?_⟩
    have h1 : pOwn y 0 lp = pOwn y 1 lp := by
      have : pStands y.op 0 = pStands y.op 1 := by
        have h26 : (y.op == 26) = false := by simpa using hop
        simp [pStands, h26]
      unfold pOwn
      rw [this]
    have h2 : ∀ (R : List Int) l i, pWalkL y.op 0 lp R i l = pWalkL y.op 1 lp R i l := fun R l i => pWalkL_role (fun i => by simp [rW]) l i
    rw [pWalk_eq] at h ⊢
    rw [h1, h2]
    exact h
  · rw [lenR_eq, lenR_eq, lenRL_role (r1 := 1) (r2 := 0) fun i => by simp [cRole, rW]]
    simp only [cst]
    simp
    omega
/-- The arguments of a call, the items of a list. -/
theorem Rt.call {x : Nd} (h : Rt 0 x) (hop : x.op = 23) : ∃ a b r, x.l = a :: b :: r ∧ Rt 0 a ∧ Rt 0 b ∧ (∀ y ∈ r, Rt 1 y) ∧ lenR x 0 = lenR a 0 + lenR b 0 + 1 + (sumR 1 r + 2) + 1 := by
  have hc := h.own.2
  have hk := fun i y => h.kid (i := i) (y := y)
  rw [lenR_eq]
  obtain ⟨op, ln, s, v, l⟩ := x
  simp only [Nd.op, Nd.l] at *
  subst hop
  match l, hc, hk with
  | [], hc, _ => simp [pCounts] at hc
  | [_], hc, _ => simp [pCounts] at hc
  | a :: b :: r, hc, hk =>
    have hR : pRoles 23 (a :: b :: r).length = 0 :: 0 :: List.replicate r.length 1 := by simp [pRoles, List.replicate_succ]
    rw [hR] at hk ⊢
    refine ⟨a, b, r, rfl, by simpa [rW] using hk 0 a rfl, by simpa [rW] using hk 1 b rfl, fun y hy => ?_, ?_⟩
    · obtain ⟨i, hi, e⟩ := List.getElem_of_mem hy
      have h2 := hk (i + 2) y (by simp [List.getElem?_eq_getElem hi, e])
      simpa [rW, List.getD_eq_getElem?_getD, List.getElem?_replicate, hi] using h2
    · rw [lenRL_cons, lenRL_cons, lenRL_const (ρ := 1) (by decide) r (0 + 1 + 1) fun k hk => by simp [cRole, rW, List.getD_eq_getElem?_getD, List.getElem?_replicate, hk, show 0 + 1 + 1 + k = k + 2 by omega]]
      simp [cst, cRole, rW]
      omega
theorem Rt.makes {x : Nd} {ρ : Int} (h : Rt ρ x) (hρ : ρ = 0) (hop : x.op = 24 ∨ x.op = 25) : (∀ y ∈ x.l, Rt 1 y) ∧ lenR x 0 = sumR 1 x.l + 2 + (if x.op = 24 then 1 else 0) := by
  subst hρ
  have hk := fun i y => h.kid (i := i) (y := y)
  rw [lenR_eq]
  obtain ⟨op, ln, s, v, l⟩ := x
  simp only [Nd.op, Nd.l] at *
  have hR : pRoles op l.length = List.replicate l.length 1 := by rcases hop with rfl | rfl <;> simp [pRoles]
  rw [hR] at hk ⊢
  refine ⟨fun y hy => ?_, ?_⟩
  · obtain ⟨i, hi, e⟩ := List.getElem_of_mem hy
    have h2 := hk i y (by simp [List.getElem?_eq_getElem hi, e])
    simpa [rW, List.getD_eq_getElem?_getD, List.getElem?_replicate, hi] using h2
  · rw [lenRL_const (ρ := 1) (by rcases hop with rfl | rfl <;> decide) l 0 fun k hk => by
    have e : (List.replicate l.length (1 : Int)).getD (0 + k) 0 = 1 := by rw [List.getD_eq_getElem?_getD, List.getElem?_replicate, if_pos (by omega)]; rfl
    rw [e]
    rcases hop with rfl | rfl <;> simp [cRole, rW]]
    rcases hop with rfl | rfl <;> simp [cst] <;> omega
/-- Codes: what stands there has no Splices. -/
theorem Rt.codes {x : Nd} (h : Rt 5 x) : (∀ y ∈ x.l, Rt 1 y ∧ y.op ≠ 26) ∧ sumR 1 x.l = x.l.length + sumR 0 x.l ∧ lenR x 5 = (if x.l.length = 0 then 0 else sumR 1 x.l + 4) ∧ lenR x 9 = (if x.l.length = 0 then 0 else sumR 1 x.l + 6) := by
  have ho := h.own
  have hk := fun i y => h.kid (i := i) (y := y)
  have hall : ∀ y ∈ x.l, Rt 0 y := fun y hy => by
    obtain ⟨i, hi, e⟩ := List.getElem_of_mem hy
    have h2 := hk i y (by simp [List.getElem?_eq_getElem hi, e])
    simpa [rW] using h2
  have h26 : ∀ y ∈ x.l, y.op ≠ 26 := fun y hy e => by
    have := (hall y hy).own.1
    simp [pStands, isExpr, e] at this
  have h01 : ∀ y : Nd, Rt 0 y → y.op ≠ 26 → Rt 1 y ∧ lenR y 1 = 1 + lenR y 0 := fun y ⟨lp, hw⟩ hop => by
    have h1 : pOwn y 0 lp = pOwn y 1 lp := by
      have : pStands y.op 0 = pStands y.op 1 := by
        have h26 : (y.op == 26) = false := by simpa using hop
        simp [pStands, h26]
      unfold pOwn
      rw [this]
    have h2 : ∀ (R : List Int) l i, pWalkL y.op 0 lp R i l = pWalkL y.op 1 lp R i l := fun R l i => pWalkL_role (fun i => by simp [rW]) l i
    have h3 : Rt 1 y := ⟨lp, by rw [pWalk_eq] at hw ⊢; rw [← h1, ← h2]; exact hw⟩
    exact ⟨h3, (h3.item hop).2⟩
  have hop : x.op = 25 := by simpa [pStands] using ho.1
  have hs : ∀ l : List Nd, (∀ y ∈ l, Rt 0 y) → (∀ y ∈ l, y.op ≠ 26) → sumR 1 l = l.length + sumR 0 l := fun l => by
    induction l with
    | nil => exact fun _ _ => rfl
    | cons z r ih =>
      intro h1 h2
      have := ih (fun y hy => h1 y (List.mem_cons_of_mem _ hy)) (fun y hy => h2 y (List.mem_cons_of_mem _ hy))
      have h3 := (h01 z (h1 z (List.mem_cons_self ..)) (h2 z (List.mem_cons_self ..))).2
      simp only [sumR, List.length_cons]
      omega
  have hs1 := hs x.l hall h26
  refine ⟨fun y hy => ⟨(h01 y (hall y hy) (h26 y hy)).1, h26 y hy⟩, hs1, ?_, ?_⟩
  · rw [lenR_eq, lenRL_const (ρ := 0) (by rw [hop]; decide) x.l 0 fun k hk => by simp [cRole, rW, hop]]
    simp only [cst]
    by_cases h0 : x.l.length = 0
    · have : x.l = [] := List.eq_nil_of_length_eq_zero h0
      simp [this, sumR]
    · simp [h0]
      omega
  · rw [lenR_eq, lenRL_const (ρ := 0) (by rw [hop]; decide) x.l 0 fun k hk => by simp [cRole]]
    simp only [cst]
    by_cases h0 : x.l.length = 0
    · have : x.l = [] := List.eq_nil_of_length_eq_zero h0
      simp [this, sumR]
    · simp [h0]
      omega
end
section
open Go.RowKit
variable {W V w w' : World} {X C : Nat} {sv : Value} {m : MS}

/-- What laying a piece comes to. -/
def LayPost (W V : World) (X C : Nat) (sv : Value) (m : MS) (k : Nat) (d : Int) (e : Ending) (w' : World) : Prop :=
  e = .returned (.tuple #[]) ∧ ∃ c, FC (fun z => z = m.ln) m.nb m.L.length k c d ∧ MW W V w' X C sv ⟨m.L ++ c, m.nb, m.ln⟩
/-- The contract of expr up to a number of nodes. -/
def ExprTo (N : Nat) : Prop := ∀ (x : Nd), x.cnt < N → x.sz ≤ 1048576 → Rt 0 x → ∀ (D : Nat → Prop) (W V w : World) (u : Array Value) (X C : Nat) (sv : Value) (m : MS), NIn D W x u → MW W V w X C sv m → m.L.length + lenR x 0 ≤ 1073741824 →
  Calls Tryd.prog 88 #[.pointer (some ⟨X, 0, none⟩), .agg u] w (LayPost W V X C sv m (lenR x 0) 1)
/-- Nodes in a row that lies in W, or in blocks of nodes that are kept since V; what they have lies in W. -/
def NV (D : Nat → Prop) (W V : World) (l : List Nd) (v : Value) : Prop :=
  ∃ a cap, v = .slice a l.length cap ∧ l.length ≤ cap ∧ cap ≤ maxLen ∧ (a = none → cap = 0) ∧ ∀ (i : Nat) (x : Nd), l[i]? = some x → ∃ (b o : Nat) (u : Array Value), a = some (⟨b, o, none⟩ : Addr) ∧ u.size = 8 ∧ NIn D W x u ∧ ∀ w, Fr (fun _ => False) W w → NKept V w → ∀ j, j < 8 → w.cell? ⟨b, o + i * 8 + j, none⟩ = u[j]?
theorem NL.nv {D : Nat → Prop} {W V : World} {l : List Nd} {v : Value} (h : NL D W l v) : NV D W V l v := by
  obtain ⟨a, cap, us, rfl, h1, h2, h3, hb, hi⟩ := h
  refine ⟨a, cap, rfl, h1, h2, h3, fun i x hx => ?_⟩
  obtain ⟨b, o, e, -, h4, hc⟩ := hb i (List.getElem?_eq_some_iff.1 hx).1
  refine ⟨b, o, us i, e, h4, hi i x hx, fun w hf _ j hj => ?_⟩
  have h5 := hc j hj
  rw [Array.getElem?_eq_getElem (by omega)] at h5 ⊢
  exact hf.cell h5 not_false
theorem NV.at {D : Nat → Prop} {W V : World} {l : List Nd} {a : Option Addr} {n cap : Nat} (h : NV D W V l (.slice a n cap)) {k : Nat} {y : Nd} (hk : l[k]? = some y) : ∃ b o yva c1 a' c', a = some ⟨b, o, none⟩ ∧ n = l.length ∧ NIn D W y #[.int .i64 y.op, .int .i64 y.ln, .string y.s, .int .i64 y.v.k, .int .i64 y.v.n, .string y.v.s, .slice yva y.v.l.length c1, .slice a' y.l.length c'] ∧
    ∀ w, Fr (fun _ => False) W w → NKept V w → w.cell? ⟨b, o + k * 8, none⟩ = some (.int .i64 y.op) ∧ w.cell? ⟨b, o + k * 8 + 1, none⟩ = some (.int .i64 y.ln) ∧ w.cell? ⟨b, o + k * 8 + 2, none⟩ = some (.string y.s) ∧ w.cell? ⟨b, o + k * 8 + 3, none⟩ = some (.int .i64 y.v.k) ∧
    w.cell? ⟨b, o + k * 8 + 4, none⟩ = some (.int .i64 y.v.n) ∧ w.cell? ⟨b, o + k * 8 + 5, none⟩ = some (.string y.v.s) ∧ w.cell? ⟨b, o + k * 8 + 6, none⟩ = some (.slice yva y.v.l.length c1) ∧ w.cell? ⟨b, o + k * 8 + 7, none⟩ = some (.slice a' y.l.length c') := by
  obtain ⟨a2, cap2, e, -, -, -, hx⟩ := h
  simp only [Value.slice.injEq] at e
  obtain ⟨rfl, rfl, rfl⟩ := e
  obtain ⟨b, o, u, rfl, h8, hu, hc⟩ := hx k y hk
  obtain ⟨va, v, e, ⟨va', c1, us1, rfl, -⟩, ⟨a', c', us', rfl, -⟩⟩ := hu.open
  subst e
  exact ⟨b, o, va', c1, a', c', rfl, rfl, hu, fun w hf hk => ⟨hc w hf hk 0 (by omega), hc w hf hk 1 (by omega), hc w hf hk 2 (by omega), hc w hf hk 3 (by omega), hc w hf hk 4 (by omega), hc w hf hk 5 (by omega), hc w hf hk 6 (by omega), hc w hf hk 7 (by omega)⟩⟩
def AllTo (N : Nat) : Prop := ∀ (l : List Nd), cntL l < N → szL l ≤ 1048576 → (∀ y ∈ l, Rt 0 y) → ∀ (D : Nat → Prop) (W V w : World) (v : Value) (X C : Nat) (sv : Value) (m : MS), NV D W V l v → MW W V w X C sv m → m.L.length + sumR 0 l ≤ 1073741824 →
  Calls Tryd.prog 104 #[.pointer (some ⟨X, 0, none⟩), v] w (LayPost W V X C sv m (sumR 0 l) l.length)
def ItemsTo (N : Nat) : Prop := ∀ (l : List Nd), cntL l < N → szL l ≤ 1048576 → (∀ y ∈ l, Rt 1 y) → ∀ (D : Nat → Prop) (W V w : World) (v : Value) (X C : Nat) (sv : Value) (m : MS), NL D W l v → MW W V w X C sv m → m.L.length + sumR 1 l + 2 ≤ 1073741824 →
  Calls Tryd.prog 105 #[.pointer (some ⟨X, 0, none⟩), v] w (LayPost W V X C sv m (sumR 1 l + 2) 1)
theorem sumR_take {ρ : Int} {l : List Nd} {k : Nat} {y : Nd} (h : l[k]? = some y) : sumR ρ (l.take (k + 1)) = sumR ρ (l.take k) + lenR y ρ := by
  rw [take_snoc' h, sumR_append]
  simp [sumR]
theorem sumR_take_le {ρ : Int} (l : List Nd) (k : Nat) : sumR ρ (l.take k) ≤ sumR ρ l := by
  have h := sumR_append ρ (l.take k) (l.drop k)
  rw [List.take_append_drop] at h
  omega
/-- A node in a block of its own: its eight cells. -/
theorem node_cells {w : World} {B : Nat} {x : Nd} {va la : Value} (h : w.heap[B]? = some (.cells #[.int .i64 x.op, .int .i64 x.ln, .string x.s, .int .i64 x.v.k, .int .i64 x.v.n, .string x.v.s, va, la] 36 (0, 0))) :
    w.cell? ⟨B, 0, none⟩ = some (.int .i64 x.op) ∧ w.cell? ⟨B, 1, none⟩ = some (.int .i64 x.ln) ∧ w.cell? ⟨B, 2, none⟩ = some (.string x.s) ∧ w.cell? ⟨B, 3, none⟩ = some (.int .i64 x.v.k) ∧ w.cell? ⟨B, 4, none⟩ = some (.int .i64 x.v.n) ∧ w.cell? ⟨B, 5, none⟩ = some (.string x.v.s) ∧ w.cell? ⟨B, 6, none⟩ = some va ∧ w.cell? ⟨B, 7, none⟩ = some la := by
  refine ⟨?_, ?_, ?_, ?_, ?_, ?_, ?_, ?_⟩
  all_goals (rw [cell_of_row _ _ _ _ _ _ h]; rfl)
set_option maxRecDepth 100000 in
set_option maxHeartbeats 3200000 in
theorem all_of (N : Nat) (ih : ExprTo N) : AllTo N := by
  intro l hl hM hrt D W V w v X C sv m hv hm hL
  have hcs := cntL_szL l
  have hll := len_le_cnt l
  obtain ⟨a, cap, rfl, hc, hcm, -⟩ := id hv
  have hlm : l.length ≤ 1048576 := by omega
  have HV := hid hv; have HM := hid hM; have HL := hid hl; have HIH := hid ih; have HR := hid hrt; have HW := hid hm; have HLL := hid hL
  clear hv hM hll hl ih hrt hm hL hcs
  go_enter Tryd.func104, Tryd.ntmps104
  go_wp2_with fail
  go_loopw [5, 8] (fun _ i wr => ∃ (k : Nat) (c : List J), k ≤ l.length ∧ i = .int .i64 k ∧ Hid (FC (fun z => z = m.ln) m.nb m.L.length (sumR 0 (l.take k)) c k) ∧ Hid (MW W V wr X C sv ⟨m.L ++ c, m.nb, m.ln⟩)) (fun _ i _ => l.length - (intOf i).toNat)
  case atStart => exact ⟨0, [], Nat.zero_le _, rfl, FC.nil, by rw [List.append_nil]; exact HW.out⟩
  case round =>
    obtain ⟨k, c, hk, rfl, HC, HK⟩ := hrel
    by_cases hlt : k < l.length
    · obtain ⟨y, hy⟩ : ∃ y, l[k]? = some y := ⟨_, List.getElem?_eq_getElem hlt⟩
      obtain ⟨b, o, yva, c1, a', c', rfl, -, hv, hcc⟩ := HV.out.at hy
      obtain ⟨e0, e1, e2, e3, e4, e5, e6, e7⟩ := hcc wr HK.out.f HK.out.kp
      clear hcc
      have hlt' : (k : Int) < l.length := by omega
      have hfY := (Fr.refl (fun _ => False) wr).alloc (.cells #[.int .i64 y.op, .int .i64 y.ln, .string y.s, .int .i64 y.v.k, .int .i64 y.v.n, .string y.v.s, .slice yva y.v.l.length c1, .slice a' y.l.length c'] 36)
      have HGY := hid (heap_alloc_new wr (.cells #[.int .i64 y.op, .int .i64 y.ln, .string y.s, .int .i64 y.v.k, .int .i64 y.v.n, .string y.v.s, .slice yva y.v.l.length c1, .slice a' y.l.length c'] 36))
      have hcl : c.length = sumR 0 (l.take k) := HC.out.1
      have hst := sumR_take (ρ := 0) hy
      have hsl := sumR_take_le (ρ := 0) l (k + 1)
      have hcn := cntL_mem hy
      have hsz := szL_mem hy
      have HKY := hid (HK.out.fr hfY)
      have HST := hid hst; have HCL := hid hcl; have HLT := hid hlt
      have hbd : (m.L ++ c).length + lenR y 0 ≤ 1073741824 := by rw [List.length_append, hcl]; have := HLL.out; omega
      have HCALL := hid (HIH.out y (by have := HL.out; omega) (by have := HM.out; omega) (HR.out y (List.mem_of_getElem? hy)) D W V _ _ X C sv _ hv HKY.out hbd)
      clear hfY hst hsl hcn hsz hbd hv hy hcl hlt
      go_upto_region 3 with fail
      generalize wr.alloc (.cells #[.int .i64 y.op, .int .i64 y.ln, .string y.s, .int .i64 y.v.k, .int .i64 y.v.n, .string y.v.s, .slice yva y.v.l.length c1, .slice a' y.l.length c'] 36) = W2 at *
      generalize wr.heap.size = B2 at *
      obtain ⟨y0, y1, y2, y3, y4, y5, y6, y7⟩ := node_cells HGY.out
      clear e0 e1 e2 e3 e4 e5 e6 e7
      go_wp2_with fail
      refine HCALL.out.mono ?_
      rintro e w3 ⟨rfl, c2, hc2, hw3⟩
      have HC2 := hid hc2; have HW3 := hid hw3
      clear hc2 hw3 y0 y1 y2 y3 y4 y5 y6 y7
      go_wp2_with fail
      go_roundw
      case rel =>
        refine ⟨k + 1, c ++ c2, by have := HLT.out; omega, by go_num, ?_, ?_⟩
        · have h2 := HC2.out
          rw [List.length_append, HCL.out] at h2
          have h3 := HC.out.cat h2
          show Hid (FC _ _ _ _ _ ((k + 1 : Nat) : Int))
          rw [HST.out]
          exact h3
        · have h2 := HW3.out
          rw [List.append_assoc] at h2
          exact h2
      case measure => simp [intOf]; have := HLT.out; omega
    · obtain rfl : k = l.length := by omega
      have hlt' : ¬ (l.length : Int) < l.length := by omega
      have h1 := HC.out; rw [List.take_length] at h1
      have HC1 := hid h1
      clear h1 hlt
      go_wp2_with fail
      go_end0
      exact ⟨rfl, c, HC1.out, HK.out⟩
end
section
open Go.RowKit
variable {W V w w' : World} {X C : Nat} {sv : Value} {m : MS}

/-- One of a slice of nodes, as it lies. -/
theorem NL.at {D : Nat → Prop} {w : World} {l : List Nd} {a : Option Addr} {n cap : Nat} (h : NL D w l (.slice a n cap)) {k : Nat} {y : Nd} (hk : l[k]? = some y) : ∃ b o yva c1 a' c', a = some ⟨b, o, none⟩ ∧ n = l.length ∧ NIn D w y #[.int .i64 y.op, .int .i64 y.ln, .string y.s, .int .i64 y.v.k, .int .i64 y.v.n, .string y.v.s, .slice yva y.v.l.length c1, .slice a' y.l.length c'] ∧
    w.cell? ⟨b, o + k * 8, none⟩ = some (.int .i64 y.op) ∧ w.cell? ⟨b, o + k * 8 + 1, none⟩ = some (.int .i64 y.ln) ∧ w.cell? ⟨b, o + k * 8 + 2, none⟩ = some (.string y.s) ∧ w.cell? ⟨b, o + k * 8 + 3, none⟩ = some (.int .i64 y.v.k) ∧
    w.cell? ⟨b, o + k * 8 + 4, none⟩ = some (.int .i64 y.v.n) ∧ w.cell? ⟨b, o + k * 8 + 5, none⟩ = some (.string y.v.s) ∧ w.cell? ⟨b, o + k * 8 + 6, none⟩ = some (.slice yva y.v.l.length c1) ∧ w.cell? ⟨b, o + k * 8 + 7, none⟩ = some (.slice a' y.l.length c') := by
  obtain ⟨a2, cap2, us, e, -, -, -, hb, hi⟩ := h
  simp only [Value.slice.injEq] at e
  obtain ⟨rfl, rfl, rfl⟩ := e
  have hlt := (List.getElem?_eq_some_iff.1 hk).1
  obtain ⟨b, o, y2, yva, c1, a', c', h1, -, hy, h3, e0, e1, e2, e3, e4, e5, e6, e7⟩ := NL.elem hb hi k hlt
  rw [hk] at hy
  obtain rfl := Option.some.inj hy
  exact ⟨b, o, yva, c1, a', c', h1, rfl, h3, e0, e1, e2, e3, e4, e5, e6, e7⟩
set_option maxRecDepth 100000 in
set_option maxHeartbeats 6400000 in
theorem items_of (N : Nat) (ih : ExprTo N) : ItemsTo N := by
  intro l hl hM hrt D W V w v X C sv m hv hm hL
  have hcs := cntL_szL l
  have hll := len_le_cnt l
  obtain ⟨a, cap, us, rfl, hc, hcm, hn, hb, hi⟩ := hv
  have hlm : l.length ≤ 1048576 := by omega
  have HPUT := hid (put_any hm 13 0 0 ⟨#[]⟩ (.int .i64 0) (.int .i64 0) (.string ⟨#[]⟩) (.slice none 0 0) ⟨rfl, rfl, rfl, rfl⟩ (by omega))
  have HB := hid hb; have HI := hid hi; have HM := hid hM; have HL := hid hl; have HIH := hid ih; have HR := hid hrt; have HLL := hid hL
  clear hb hi hM hn hll hl ih hrt hm hL hcs
  go_enter Tryd.func105, Tryd.ntmps105
  go_wp2_with fail
  refine HPUT.out.mono ?_
  rintro e w1 ⟨rfl, hm1⟩
  have HW := hid hm1
  clear hm1 HPUT
  go_wp2_with fail
  go_loopw [5, 11] (fun _ i wr => ∃ (k : Nat) (c : List J), k ≤ l.length ∧ i = .int .i64 k ∧ Hid (FB (fun z => z = m.ln) m.nb (m.L.length + 1) (sumR 1 (l.take k)) c) ∧ Hid (MW W V wr X C sv ⟨m.L ++ [⟨13, 0, 0, ⟨#[]⟩, m.ln⟩] ++ c, m.nb, m.ln⟩)) (fun _ i _ => l.length - (intOf i).toNat)
  case atStart => exact ⟨0, [], Nat.zero_le _, rfl, FB.nil, by rw [List.append_nil]; exact HW.out⟩
  case round =>
    clear HW
    obtain ⟨k, c, hk, rfl, HC, HK⟩ := hrel
    by_cases hlt : k < l.length
    · obtain ⟨b, o, y, yva, c1, a', c', rfl, -, hy, hv, e0, e1, e2, e3, e4, e5, e6, e7⟩ := NL.elem HB.out HI.out k hlt
      have hlt' : (k : Int) < l.length := by omega
      have hf := HK.out.f
      replace e0 := hf.cell e0 not_false
      replace e1 := hf.cell e1 not_false
      replace e2 := hf.cell e2 not_false
      replace e3 := hf.cell e3 not_false
      replace e4 := hf.cell e4 not_false
      replace e5 := hf.cell e5 not_false
      replace e6 := hf.cell e6 not_false
      replace e7 := hf.cell e7 not_false
      have hfY := (Fr.refl (fun _ => False) wr).alloc (.cells #[.int .i64 y.op, .int .i64 y.ln, .string y.s, .int .i64 y.v.k, .int .i64 y.v.n, .string y.v.s, .slice yva y.v.l.length c1, .slice a' y.l.length c'] 36)
      have HGY := hid (heap_alloc_new wr (.cells #[.int .i64 y.op, .int .i64 y.ln, .string y.s, .int .i64 y.v.k, .int .i64 y.v.n, .string y.v.s, .slice yva y.v.l.length c1, .slice a' y.l.length c'] 36))
      have hcl : c.length = sumR 1 (l.take k) := HC.out.1
      have hst := sumR_take (ρ := 1) hy
      have hsl := sumR_take_le (ρ := 1) l (k + 1)
      have hcn := cntL_mem hy
      have hsz := szL_mem hy
      have HKY := hid (HK.out.fr hfY)
      have HRY := hid (HR.out y (List.mem_of_getElem? hy))
      have HV := hid hv
      have HST := hid hst; have HCL := hid hcl; have HLT := hid hlt
      have hl3 : (m.L ++ [(⟨13, 0, 0, ⟨#[]⟩, m.ln⟩ : J)] ++ c).length = m.L.length + 1 + sumR 1 (l.take k) := by rw [List.length_append, List.length_append, hcl]; rfl
      have HL3 := hid hl3
      have HBD := hid (show (m.L ++ [(⟨13, 0, 0, ⟨#[]⟩, m.ln⟩ : J)] ++ c).length + lenR y 1 + 1 ≤ 1073741824 by rw [hl3]; have := HLL.out; omega)
      have HCN := hid (show y.cnt < N by have := HL.out; omega)
      have HSZ := hid (show y.sz ≤ 1048576 by have := HM.out; omega)
      clear hf hfY hst hsl hcn hsz hv hy hcl hlt hl3
      go_upto_region 4 with fail
      generalize wr.alloc (.cells #[.int .i64 y.op, .int .i64 y.ln, .string y.s, .int .i64 y.v.k, .int .i64 y.v.n, .string y.v.s, .slice yva y.v.l.length c1, .slice a' y.l.length c'] 36) = W2 at *
      generalize wr.heap.size = B2 at *
      obtain ⟨y0, y1, y2, y3, y4, y5, y6, y7⟩ := node_cells HGY.out
      clear e0 e1 e2 e3 e4 e5 e6 e7
      by_cases h26 : y.op = 26
      · obtain ⟨z, hz, hrz, hlz⟩ := HRY.out.splice h26
        obtain ⟨va9, v9, e9, -, hnl⟩ := HV.out.open
        obtain rfl : v9 = .slice a' y.l.length c' := by simp at e9; exact e9.2.symm
        obtain ⟨b2, o2, zva, d1, za, d2, rfl, -, hvz, z0, z1, z2, z3, z4, z5, z6, z7⟩ := hnl.at (k := 0) (y := z) (by rw [hz]; rfl)
        have hf2 := HKY.out.f
        have hl1 : y.l.length = 1 := by rw [hz]; rfl
        have hcz : z.cnt < N ∧ z.sz ≤ 1048576 := by
          have h1 := Nd.cnt_eq y; have h2 := Nd.sz_eq y
          rw [hz] at h1 h2
          simp only [cntL, szL] at h1 h2
          have := HCN.out; have := HSZ.out
          omega
        have HCALL := hid (HIH.out z hcz.1 hcz.2 hrz D W V _ _ X C sv _ hvz HKY.out (by have := HBD.out; dsimp only; omega))
        replace z0 := hf2.cell z0 not_false
        replace z1 := hf2.cell z1 not_false
        replace z2 := hf2.cell z2 not_false
        replace z3 := hf2.cell z3 not_false
        replace z4 := hf2.cell z4 not_false
        replace z5 := hf2.cell z5 not_false
        replace z6 := hf2.cell z6 not_false
        replace z7 := hf2.cell z7 not_false
        rw [hl1] at y7
        simp only [Nat.zero_mul, Nat.add_zero] at z0 z1 z2 z3 z4 z5 z6 z7
        have y0' : W2.cell? ⟨B2, 0, none⟩ = some (.int .i64 26) := by rw [← h26]; exact y0
        have HLZ := hid hlz
        clear hf2 hvz hnl e9 hz hrz hlz hl1 hcz y0 h26
        go_wp2_with fail
        refine HCALL.out.mono ?_
        rintro e w3 ⟨rfl, c2, hc2, hw3⟩
        have HP2 := hid (put_any hw3 15 0 0 ⟨#[]⟩ (.int .i64 0) (.int .i64 0) (.string ⟨#[]⟩) (.slice none 0 0) ⟨rfl, rfl, rfl, rfl⟩ (by dsimp only; rw [List.length_append, hc2.1]; have := HBD.out; have := HLZ.out; omega))
        have HC2 := hid hc2
        clear hc2 hw3 z0 z1 z2 z3 z4 z5 z6 z7 y0' y1 y2 y3 y4 y5 y6 y7 HCALL
        go_wp2_with fail
        refine HP2.out.mono ?_
        rintro e w4 ⟨rfl, hw4⟩
        have HW4 := hid hw4
        clear hw4 HP2
        go_wp2_with fail
        go_roundw
        case rel =>
          refine ⟨k + 1, c ++ c2 ++ [⟨15, 0, 0, ⟨#[]⟩, m.ln⟩], by have := HLT.out; omega, by go_num, ?_, ?_⟩
          · have h2 := HC2.out
            rw [HL3.out] at h2
            have h3 := HC.out.add (op := 15) (a := 0) (b' := 0) (z := ⟨#[]⟩) (ln := m.ln) h2 (.inr rfl) rfl
            show Hid (FB _ _ _ _ _)
            rw [HST.out, HLZ.out, show sumR 1 (List.take k l) + (1 + lenR z 0) = sumR 1 (List.take k l) + lenR z 0 + 1 by omega]
            exact h3
          · have h2 := HW4.out
            simp only [List.append_assoc] at h2 ⊢
            exact h2
        case measure => simp [intOf]; have := HLT.out; omega
      · obtain ⟨hry, hly⟩ := HRY.out.item h26
        have HLY := hid hly
        have HCALL := hid (HIH.out y HCN.out HSZ.out hry D W V _ _ X C sv _ HV.out HKY.out (by have := HBD.out; dsimp only; omega))
        clear hry hly
        go_wp2_with fail
        refine HCALL.out.mono ?_
        rintro e w3 ⟨rfl, c2, hc2, hw3⟩
        have HP2 := hid (put_any hw3 14 0 0 ⟨#[]⟩ (.int .i64 0) (.int .i64 0) (.string ⟨#[]⟩) (.slice none 0 0) ⟨rfl, rfl, rfl, rfl⟩ (by dsimp only; rw [List.length_append, hc2.1]; have := HBD.out; have := HLY.out; omega))
        have HC2 := hid hc2
        clear hc2 hw3 y0 y1 y2 y3 y4 y5 y6 y7 HCALL
        go_wp2_with fail
        refine HP2.out.mono ?_
        rintro e w4 ⟨rfl, hw4⟩
        have HW4 := hid hw4
        clear hw4 HP2
        go_wp2_with fail
        go_roundw
        case rel =>
          refine ⟨k + 1, c ++ c2 ++ [⟨14, 0, 0, ⟨#[]⟩, m.ln⟩], by have := HLT.out; omega, by go_num, ?_, ?_⟩
          · have h2 := HC2.out
            rw [HL3.out] at h2
            have h3 := HC.out.add (op := 14) (a := 0) (b' := 0) (z := ⟨#[]⟩) (ln := m.ln) h2 (.inl rfl) rfl
            show Hid (FB _ _ _ _ _)
            rw [HST.out, HLY.out, show sumR 1 (List.take k l) + (1 + lenR y 0) = sumR 1 (List.take k l) + lenR y 0 + 1 by omega]
            exact h3
          · have h2 := HW4.out
            simp only [List.append_assoc] at h2 ⊢
            exact h2
        case measure => simp [intOf]; have := HLT.out; omega
    · obtain rfl : k = l.length := by omega
      have hlt' : ¬ (l.length : Int) < l.length := by omega
      have h1 := HC.out; rw [List.take_length] at h1
      have HC1 := hid h1
      have HPE := hid (put_any HK.out 16 0 0 ⟨#[]⟩ (.int .i64 0) (.int .i64 0) (.string ⟨#[]⟩) (.slice none 0 0) ⟨rfl, rfl, rfl, rfl⟩ (by rw [List.length_append, List.length_append, h1.1]; have := HLL.out; simp only [List.length_cons, List.length_nil]; omega))
      clear h1 hlt
      go_wp2_with fail
      refine HPE.out.mono ?_
      rintro e w4 ⟨rfl, hw4⟩
      have HW4 := hid hw4
      clear hw4 HPE
      go_wp2_with fail
      go_end0
      refine ⟨rfl, [⟨13, 0, 0, ⟨#[]⟩, m.ln⟩] ++ c ++ [⟨16, 0, 0, ⟨#[]⟩, m.ln⟩], HC1.out.items rfl rfl, ?_⟩
      have h2 := HW4.out
      simp only [List.append_assoc] at h2 ⊢
      exact h2
end
end Go.Proofs.YtbegahbagnflnaaDoor
