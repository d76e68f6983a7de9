/- What waits, in plain Lean: items, their order, the first of them. No function of the program stands here. -/
import Derived.Test.YtdcfidefkoamnaaDoorLib
import Derived.Shelf.SlSortCmp.WholeK
namespace Go.Proofs.YtdcfidefkoamnaaDoor
open Go.RowKit Go.Sort

/-- Something that waits. -/
structure Itm where
  id : Int
  own : Int
  wk : Int
  h1 : 1 ≤ id
  h2 : id ≤ 1073741824
  hw : -1 ≤ wk
instance : Inhabited Itm := ⟨⟨1, 0, 0, by omega, by omega, by omega⟩⟩
def itV (x : Itm) : List Value := [.int .i64 x.id, .int .i64 x.own, .int .i64 x.wk]
def itsV (L : List Itm) : List Value := L.flatMap itV
@[simp] theorem itV_length (x : Itm) : (itV x).length = 3 := rfl
@[simp] theorem itsV_length (L : List Itm) : (itsV L).length = L.length * 3 := by
  induction L with
  | nil => rfl
  | cons x r ih => simp [itsV] at ih ⊢; omega
theorem itsV_app (a b : List Itm) : itsV (a ++ b) = itsV a ++ itsV b := by simp [itsV]
theorem itsV_get (L : List Itm) (i : Nat) (x : Itm) (hx : L[i]? = some x) (j : Nat) (hj : j < 3) : (itsV L)[i * 3 + j]? = (itV x)[j]? := by
  induction L generalizing i with
  | nil => simp at hx
  | cons y r ih =>
    have e : itsV (y :: r) = itV y ++ itsV r := rfl
    rw [e]
    cases i with
    | zero =>
      simp at hx
      subst hx
      rw [List.getElem?_append_left (by simp; omega)]
      simp
    | succ i =>
      rw [List.getElem?_append_right (by simp; omega), ← ih i (by simpa using hx)]
      congr 1
      simp
      omega
theorem itsV_take (L : List Itm) (k : Nat) : (itsV L).take (k * 3) = itsV (L.take k) := by
  induction L generalizing k with
  | nil => simp [itsV]
  | cons y r ih =>
    have e : itsV (y :: r) = itV y ++ itsV r := rfl
    cases k with
    | zero => simp [itsV]
    | succ k =>
      have e2 : itsV ((y :: r).take (k + 1)) = itV y ++ itsV (r.take k) := rfl
      rw [e, e2, ← ih k, List.take_append]
      have h3 : (itV y).length = 3 := rfl
      rw [List.take_of_length_le (by omega)]
      congr 2
      omega

/-- What the program's order says of two. -/
def cmpI (a b : Int) : Int := if a < b then -1 else if b < a then 1 else 0
def cfI (x y : Itm) : Int := if (x.wk = -1 ↔ y.wk = -1) then (if cmpI x.wk y.wk = 0 then x.id - y.id else cmpI x.wk y.wk) else cmpI y.wk x.wk
/-- One stands ahead of another one. -/
def Ahd (x y : Itm) : Prop := (x.wk ≠ -1 ∧ y.wk = -1) ∨ ((x.wk = -1 ↔ y.wk = -1) ∧ (x.wk < y.wk ∨ (x.wk = y.wk ∧ x.id < y.id)))
instance (x y : Itm) : Decidable (Ahd x y) := by unfold Ahd; exact inferInstance
theorem cfI_lt (x y : Itm) : cfI x y < 0 ↔ Ahd x y := by
  have hx := x.hw; have hy := y.hw
  unfold cfI Ahd cmpI
  by_cases h1 : x.wk = -1 <;> by_cases h2 : y.wk = -1
  · simp [h1, h2]; omega
  · simp [h1, h2]; split <;> (try split) <;> omega
  · simp [h1, h2]; split <;> (try split) <;> omega
  · simp [h1, h2]
    by_cases h3 : x.wk < y.wk
    · simp [h3]
    · by_cases h4 : y.wk < x.wk
      · simp [h3, h4]; omega
      · have : x.wk = y.wk := by omega
        simp [this]; omega
theorem lt_cfI (x y : Itm) : ltOf cfI x y = decide (Ahd x y) := by
  unfold ltOf
  exact decide_eq_decide.2 (cfI_lt x y)
theorem swoI : SWO (ltOf cfI) where
  irrefl x := by rw [lt_cfI]; simp [Ahd]
  trans x y z h1 h2 := by
    rw [lt_cfI] at *
    simp only [decide_eq_true_eq] at *
    unfold Ahd at *
    omega
  ntrans x y z h1 h2 := by
    rw [lt_cfI] at *
    simp only [decide_eq_false_iff_not] at *
    unfold Ahd at *
    omega

/-- No two have one number. -/
def Uniq (L : List Itm) : Prop := L.Pairwise fun x y => x.id ≠ y.id
/-- x stands ahead of all others. -/
def First (L : List Itm) (x : Itm) : Prop := x ∈ L ∧ ∀ y ∈ L, ¬ Ahd y x
theorem First.eq {L : List Itm} (hU : Uniq L) {x y : Itm} (hx : First L x) (hy : First L y) : x = y := by
  have h1 := hx.2 y hy.1
  have h2 := hy.2 x hx.1
  have hid : x.id = y.id := by unfold Ahd at h1 h2; omega
  obtain ⟨i, hi, hxi⟩ := List.getElem_of_mem hx.1
  obtain ⟨j, hj, hyj⟩ := List.getElem_of_mem hy.1
  rcases Nat.lt_trichotomy i j with h | h | h
  · have := (List.pairwise_iff_getElem.1 hU) i j hi hj h
    rw [hxi, hyj] at this
    exact absurd hid this
  · subst h; rw [← hxi, hyj]
  · have := (List.pairwise_iff_getElem.1 hU) j i hj hi h
    rw [hxi, hyj] at this
    exact absurd hid.symm this

/-- The first behind the sort. -/
theorem first_of_sorted {d d' : Array Itm} (hp : PermIn 0 d.size d d') (hs : SortedIn (ltOf cfI) 0 d.size d') (hd : 0 < d.size) : First d.toList d'[0]! := by
  have hsz := hp.1
  have hperm : d'.toList.Perm d.toList := by
    have h := hp.2.2
    rw [← hsz, Array.extract_size] at h
    rwa [hsz, Array.extract_size] at h
  have h0 : d'[0]! = d'.toList[0]'(by simp; omega) := by rw [getElem!_pos d' 0 (by omega)]; simp
  refine ⟨hperm.subset ?_, fun y hy => ?_⟩
  · rw [h0]; exact List.getElem_mem _
  · have hy' := hperm.symm.subset hy
    obtain ⟨j, hj, rfl⟩ := List.getElem_of_mem hy'
    simp only [Array.length_toList] at hj
    rcases Nat.eq_zero_or_pos j with rfl | hj0
    · rw [h0]; simp [Ahd]
    · have := hs 0 j (Nat.zero_le _) hj0 (by omega)
      rw [lt_cfI, decide_eq_false_iff_not, getElem!_pos d' j hj] at this
      simpa using this
end Go.Proofs.YtdcfidefkoamnaaDoor
