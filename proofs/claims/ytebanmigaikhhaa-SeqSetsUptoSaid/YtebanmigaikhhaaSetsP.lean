/- Plain facts for SeqSets. -/
import Derived.Test.YtebanmigaikhhaaSeqWith
import Derived.Test.YtebanmigaikhhaaSeqFirst
import Derived.Test.YtebanmigaikhhaaKrPlain
import Derived.Test.YtebanmigaikhhaaSortG
namespace Go.Proofs.Ytebanmigaikhhaa
open Go.RowKit Go.Sort

theorem krL_all : ∀ {l : List V}, (∀ x ∈ l, x.kr) → krL l
  | [], _ => trivial
  | x :: r, h => ⟨h x (by simp), krL_all fun y hy => h y (by simp [hy])⟩
theorem krL_of {l : List V} (h : krL l) {x : V} (hx : x ∈ l) : x.kr := by
  obtain ⟨i, hi, rfl⟩ := List.getElem_of_mem hx
  exact krL_mem h (List.getElem?_eq_getElem hi)
theorem krL_perm {l m : List V} (h : krL l) (hp : l.Perm m) : krL m := krL_all fun x hx => krL_of h (hp.mem_iff.2 hx)
theorem krL_rev {l : List V} (h : krL l) : krL l.reverse := krL_all fun x hx => krL_of h (by simpa using hx)
theorem sizeL_perm {l m : List V} (hp : l.Perm m) : sizeL l = sizeL m := by
  induction hp with
  | nil => rfl
  | cons x _ ih => rw [sizeL, sizeL, ih]
  | swap x y r => rw [sizeL, sizeL, sizeL, sizeL]; omega
  | trans _ _ h1 h2 => exact h1.trans h2
theorem right_krL {l : List V} (h : rightL l = true) : krL l := by
  unfold rightL at h
  simp only [Bool.and_eq_true] at h
  exact krL_all fun x hx => right_kr (List.all_eq_true.1 h.1.2 x hx)
/-- How many of the first k are x. -/
noncomputable def cnt (l : List V) (x : V) (k : Nat) : Nat := (l.take k).countP fun y => V.same y x
theorem cnt_zero (l : List V) (x : V) : cnt l x 0 = 0 := by simp [cnt]
theorem cnt_succ {l : List V} {x y : V} {k : Nat} (h : l[k]? = some y) : cnt l x (k + 1) = cnt l x k + if V.same y x = true then 1 else 0 := by
  unfold cnt
  rw [take_snoc' h, List.countP_append]
  simp [List.countP_cons]
theorem cnt_le (l : List V) (x : V) (k : Nat) : cnt l x k ≤ k := by
  unfold cnt
  refine Nat.le_trans List.countP_le_length ?_
  simp
  omega
theorem cnt_perm {l m : List V} (h : l.Perm m) (x : V) : cnt l x l.length = cnt m x l.length := by
  unfold cnt
  rw [List.take_length, h.length_eq, List.take_length]
  exact h.countP_eq _
theorem fidx_app (x : V) : ∀ (l : List V) (k : Nat), fidx x l k = -1 → fidx x (l ++ [x]) k = (k : Int) + l.length
  | [], k, _ => by
    rw [List.nil_append]
    unfold fidx
    rw [if_pos (V.same_refl x)]
    simp
  | y :: r, k, h => by
    unfold fidx at h
    rw [List.cons_append]
    unfold fidx
    by_cases e : V.same y x = true
    · rw [if_pos e] at h
      omega
    · rw [if_neg e] at h ⊢
      rw [fidx_app x r (k + 1) h]
      simp
      omega
/-- With: what the law asks of it. -/
theorem pWith_says {l : List V} (h : rightL l = true) (x : V) : (pWith l x).2 = 0 → fidx x (pWith l x).1 0 ≠ -1 ∧ (pWith l x).1.length ≤ l.length + 1 ∧ (fidx x l 0 ≠ -1 → (pWith l x).1.length = l.length) := by
  have h0 := fidx_ge x l 0
  unfold pWith
  by_cases e : 0 < fidx x l 0 + 1
  · rw [if_pos e]
    intro hc
    have hm : (pMade l).1 = l := by
      have hc' : mcode l = 0 := by simpa [pMade] using hc
      simp [pMade, mlist, hc']
    rw [hm]
    exact ⟨by omega, by omega, fun _ => rfl⟩
  · rw [if_neg e]
    intro hc
    have e1 : fidx x l 0 = -1 := by omega
    have hm : (pMade (l ++ [x])).1 = l ++ [x] := by
      have hc' : mcode (l ++ [x]) = 0 := by simpa [pMade] using hc
      simp [pMade, mlist, hc']
    rw [hm, fidx_app x l 0 e1]
    exact ⟨by omega, by simp, fun h => absurd e1 h⟩
theorem pWith_le (l : List V) (x : V) : (pWith l x).1.length ≤ l.length + 1 ∧ sizeL (pWith l x).1 ≤ sizeL l + x.size := by
  have key : ∀ m : List V, (pMade m).1.length ≤ m.length ∧ sizeL (pMade m).1 ≤ sizeL m := fun m => by
    unfold pMade mlist
    dsimp only
    split
    · exact ⟨Nat.le_refl _, Nat.le_refl _⟩
    · simp [sizeL]
  unfold pWith
  split
  · have := key l
    omega
  · have := key (l ++ [x])
    rw [sizeL_app, List.length_append] at this
    simp [sizeL] at this
    omega
theorem pWithout_len (l : List V) (x : V) : (pWithout l x).length = if fidx x l 0 = -1 then l.length else l.length - 1 := by
  have h0 := fidx_ge x l 0
  unfold pWithout
  by_cases e : fidx x l 0 = -1
  · rw [if_pos e, if_pos e]
  · rw [if_neg e, if_neg e]
    simp
    omega
theorem fidx_pos {l : List V} {x : V} (h : fidx x l 0 ≠ -1) : 0 < l.length := by
  have h0 := fidx_ge x l 0
  omega
/-- An item of a slice of values. -/
theorem VL.at {D : Nat → Prop} {w : World} {l : List V} {a : Option Addr} {n c : Nat} (h : VL D w l (.slice a n c)) {k : Nat} (hk : k < l.length) :
    ∃ b o y a' c', a = some ⟨b, o, none⟩ ∧ l[k]? = some y ∧ VIn D w y #[.int .i64 y.k, .int .i64 y.n, .string y.s, .slice a' y.l.length c'] ∧ w.cell? ⟨b, o + k * 4, none⟩ = some (.int .i64 y.k) ∧
      w.cell? ⟨b, o + k * 4 + 1, none⟩ = some (.int .i64 y.n) ∧ w.cell? ⟨b, o + k * 4 + 2, none⟩ = some (.string y.s) ∧ w.cell? ⟨b, o + k * 4 + 3, none⟩ = some (.slice a' y.l.length c') := by
  obtain ⟨a1, c1, us, e, -, -, -, hb, hi⟩ := h
  simp only [Value.slice.injEq] at e
  obtain ⟨rfl, rfl, rfl⟩ := e
  obtain ⟨b, o, y, a', c', r1, -, r⟩ := VL.elem hb hi k hk
  exact ⟨b, o, y, a', c', r1, r⟩
end Go.Proofs.Ytebanmigaikhhaa
