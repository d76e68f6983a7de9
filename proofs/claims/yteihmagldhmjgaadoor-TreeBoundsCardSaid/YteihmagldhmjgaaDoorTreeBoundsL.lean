/- TreeBounds: just so many nodes, just so deep: the law's walk. -/
import Derived.Test.YteihmagldhmjgaaDoorTreeLoops
namespace Go.Proofs.YteihmagldhmjgaaDoor
open Go.RowKit

/-- A literal behind so many Nots. -/
def notN : Nat → Nd
  | 0 => nd0 1 []
  | j + 1 => nd0 4 [notN j]
theorem notN_cnt : ∀ j, (notN j).cnt = j + 1
  | 0 => rfl
  | j + 1 => by
    have := notN_cnt j
    simp only [notN, nd0, Nd.cnt, cntL]
    omega
theorem notN_dep : ∀ j, (notN j).dep = j + 1
  | 0 => rfl
  | j + 1 => by
    have := notN_dep j
    simp only [notN, nd0, Nd.dep, depL]
    omega
theorem notN_sz : ∀ j, (notN j).sz = 2 * (j + 1)
  | 0 => rfl
  | j + 1 => by
    have := notN_sz j
    have hv : v0.size = 1 := rfl
    have he : (ByteArray.mk #[]).size = 0 := rfl
    simp only [notN, nd0, Nd.sz, szL, hv, he]
    omega
theorem notN_walk : ∀ (j : Nat) (lp : Bool), pWalk (notN j) 0 lp = (0, 0)
  | 0, lp => by
    refine walk_nil 1 0 lp ((own0 1 [] 0 lp).trans ?_)
    generalize pName _ = nm
    cases nm <;> cases lp <;> rfl
  | j + 1, lp => by
    have h0 : pOwn (nd0 4 [notN j]) 0 lp = 0 := by
      refine (own0 4 _ 0 lp).trans ?_
      generalize pName _ = nm
      cases nm <;> cases lp <;> rfl
    show pWalk (nd0 4 [notN j]) 0 lp = _
    rw [pWalk_eq, if_pos h0]
    refine (walk1 4 0 lp (pRoles 4 1) (notN j)).trans ?_
    exact notN_walk j _
theorem pValid_not (j : Nat) (hj : j < 60) : pValid [notN j] 0 = if 40 < j + 1 then ⟨112, false, 0⟩ else ⟨0, false, 0⟩ := by
  have h1 := notN_cnt j
  have h2 := notN_dep j
  unfold pValid
  rw [if_neg (by simp only [cntL]; omega)]
  have hd : depL [notN j] = j + 1 := by simp only [depL]; omega
  rw [hd]
  have hw : pVals 0 [notN j] = (0, 0) := by
    rw [pVals, notN_walk]
    rfl
  rw [hw]
  rfl
/-- So many Returns. -/
def retN (n : Nat) : List Nd := List.replicate n (nd0 47 [])
theorem retN_cnt : ∀ n, cntL (retN n) = n
  | 0 => rfl
  | n + 1 => by
    have := retN_cnt n
    have h1 : (nd0 47 []).cnt = 1 := rfl
    simp only [retN, List.replicate_succ, cntL] at *
    omega
theorem retN_dep : ∀ n, depL (retN n) ≤ 1
  | 0 => by decide
  | n + 1 => by
    have := retN_dep n
    have h1 : (nd0 47 []).dep = 1 := rfl
    simp only [retN, List.replicate_succ, depL] at *
    omega
theorem retN_sz : ∀ n, szL (retN n) = 2 * n
  | 0 => rfl
  | n + 1 => by
    have := retN_sz n
    have h1 : (nd0 47 []).sz = 2 := rfl
    simp only [retN, List.replicate_succ, szL] at *
    omega
theorem ret_walk (lp : Bool) : pWalk (nd0 47 []) 7 lp = (0, 0) := by
  refine walk_nil 47 7 lp ((own0 47 [] 7 lp).trans ?_)
  generalize pName _ = nm
  cases nm <;> cases lp <;> rfl
theorem retN_vals : ∀ n, pVals 7 (retN n) = (0, 0)
  | 0 => rfl
  | n + 1 => by
    have := retN_vals n
    show pVals 7 (nd0 47 [] :: retN n) = _
    rw [pVals, ret_walk]
    exact this
theorem pValid_ret (n : Nat) : pValid (retN n) 7 = if 4096 < n then ⟨104, false, 0⟩ else ⟨0, false, 0⟩ := by
  unfold pValid
  have := retN_dep n
  rw [retN_cnt, retN_vals, if_neg (show ¬ 40 < depL (retN n) by omega)]
  rfl
theorem Tryd.info_node : (Tryd.prog.info? 29).map (fun i => (i.zero, i.size, i.bytes)) = some (some (.agg #[.int .i64 0, .int .i64 0, .string ⟨#[]⟩, .int .i64 0, .int .i64 0, .string ⟨#[]⟩, .slice none 0 0, .slice none 0 0]), 8, 112) := by kernel_rfl
theorem made_get (z : Array Value) (m j : Nat) (hj : j < m) (hz : z.size = 8) : (madeCells z m)[j]? = z[j % 8]? := by
  have : j % z.size < z.size := Nat.mod_lt _ (by omega)
  simp [madeCells, hj, hz]
  rw [getElem!_pos z (j % 8) (by omega), Array.getElem?_eq_getElem (by omega)]
/-- The first i's cells are those of Returns, the others are empty. -/
def RetAt (w : World) (B n i : Nat) : Prop := ∃ cs : Array Value, w.heap[B]? = some (.cells cs 29) ∧ cs.size = n * 8 ∧ ∀ q, q < n → ∀ j, j < 8 → cs[q * 8 + j]? = (nU (if q < i then 47 else 0) (.slice none 0 0))[j]?
/-- make([]api.Node, n). -/
theorem mk_nodes (n : Nat) (hn : n ≤ 65536) (w : World) : ∃ w', (Instr.makeSlice 27 (.int .i64 n) (.int .i64 n)).run Tryd.prog w = .ok (.slice (some ⟨w.heap.size, 0, none⟩) n n) w' ∧
    RetAt w' w.heap.size n 0 ∧ Fr (fun _ => False) w w' := by
  obtain ⟨i, hi, he⟩ := Option.map_eq_some_iff.1 Tryd.info_node
  simp only [Prod.mk.injEq] at he
  obtain ⟨z1, z2, z3⟩ := he
  have hr := run_make (P := Tryd.prog) w 27 29 i (.agg #[.int .i64 0, .int .i64 0, .string ⟨#[]⟩, .int .i64 0, .int .i64 0, .string ⟨#[]⟩, .slice none 0 0, .slice none 0 0]) Tryd.underlying27 hi z1 .i64 .i64 n n (by omega) (by omega) (by rw [z3]; omega) (by omega)
  rw [Int.toNat_natCast, z2] at hr
  refine ⟨_, hr, ⟨_, heap_alloc_new w _, ?_, fun q hq j hj => ?_⟩, (Fr.refl _ _).alloc _⟩
  · simp [madeCells]
  · rw [made_get _ _ _ (by omega) (by rfl)]
    rw [show (q * 8 + j) % 8 = j by omega, if_neg (by omega)]
    rfl
/-- One more Return is stored. -/
theorem RetAt.store {w : World} {B n i : Nat} (h : RetAt w B n i) (hi : i < n) : RetAt ((((((((w.setCell ⟨B, i * 8, none⟩ (.int .i64 47)).setCell ⟨B, i * 8 + 1, none⟩ (.int .i64 0)).setCell ⟨B, i * 8 + 2, none⟩ (.string ⟨#[]⟩)).setCell ⟨B, i * 8 + 3, none⟩ (.int .i64 0)).setCell ⟨B, i * 8 + 4, none⟩ (.int .i64 0)).setCell ⟨B, i * 8 + 5, none⟩ (.string ⟨#[]⟩)).setCell ⟨B, i * 8 + 6, none⟩ (.slice none 0 0)).setCell ⟨B, i * 8 + 7, none⟩ (.slice none 0 0)) B n (i + 1) := by
  obtain ⟨cs, hg, hs, hc⟩ := h
  have hr := (setCell_row (i * 8 + 7) (.slice none 0 0) (setCell_row (i * 8 + 6) (.slice none 0 0) (setCell_row (i * 8 + 5) (.string ⟨#[]⟩) (setCell_row (i * 8 + 4) (.int .i64 0) (setCell_row (i * 8 + 3) (.int .i64 0) (setCell_row (i * 8 + 2) (.string ⟨#[]⟩) (setCell_row (i * 8 + 1) (.int .i64 0) (setCell_row (i * 8) (.int .i64 47) hg))))))))
  refine ⟨_, hr, by simp [hs], fun q hq j hj => ?_⟩
  by_cases hqi : q = i
  · subst hqi
    rw [if_pos (by omega)]
    obtain rfl | rfl | rfl | rfl | rfl | rfl | rfl | rfl : j = 0 ∨ j = 1 ∨ j = 2 ∨ j = 3 ∨ j = 4 ∨ j = 5 ∨ j = 6 ∨ j = 7 := by omega
    all_goals simp [Array.getElem?_setIfInBounds, nU, hs]
    all_goals omega
  · have hh := hc q hq j hj
    have e : (if q < i + 1 then (47 : Int) else 0) = if q < i then 47 else 0 := by
      by_cases h : q < i
      · rw [if_pos h, if_pos (by omega)]
      · rw [if_neg h, if_neg (by omega)]
    rw [e, ← hh]
    simp only [Array.getElem?_setIfInBounds]
    rw [if_neg (by omega), if_neg (by omega), if_neg (by omega), if_neg (by omega), if_neg (by omega), if_neg (by omega), if_neg (by omega), if_neg (by omega)]
theorem RetAt.cell {w : World} {B n i : Nat} (h : RetAt w B n i) (q : Nat) (hq : q < n) (j : Nat) (hj : j < 8) : w.cell? ⟨B, q * 8 + j, none⟩ = (nU (if q < i then 47 else 0) (.slice none 0 0))[j]? := by
  obtain ⟨cs, hg, hs, hc⟩ := h
  rw [cell_of_row w B _ _ _ _ hg]
  exact hc q hq j hj
theorem RetAt.frozen {w : World} {B n i : Nat} (h : RetAt w B n i) (j : Nat) : w.frozen? ⟨B, j, none⟩ = false := by
  obtain ⟨cs, hg, -⟩ := h
  exact frozen_of_row _ _ j _ _ hg
theorem RetAt.all {w : World} {B n : Nat} (h : RetAt w B n n) (hn : n ≤ 65536) : NL (fun _ => True) w (retN n) (.slice (some ⟨B, 0, none⟩) n n) := by
  have hl : (retN n).length = n := by simp [retN]
  refine ⟨_, n, fun _ => nU 47 (.slice none 0 0), by rw [hl], by rw [hl]; exact Nat.le_refl _, by simp [maxLen]; omega, (fun e => by cases e), fun i hi => ⟨B, 0, rfl, trivial, rfl, fun j hj => ?_⟩, fun i x hx => ?_⟩
  · rw [hl] at hi
    have := h.cell i hi j hj
    rw [if_pos hi] at this
    rw [Nat.zero_add]
    exact this
  · have h1 := (List.getElem?_eq_some_iff.1 hx).1
    have : x = nd0 47 [] := by
      obtain ⟨h1, rfl⟩ := List.getElem?_eq_some_iff.1 hx
      simp [retN]
    subst this
    exact nd0_in 47 (NL.nil _ _)
end Go.Proofs.YteihmagldhmjgaaDoor
