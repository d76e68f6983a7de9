/- slices.SortStableFunc over values: the row under way; swapRangeCmpFunc. -/
import Derived.Test.YtebanmigaikhhaaSortP
import Derived.Test.YtebanmigaikhhaaCmpTot
import Derived.Test.YtebanmigaikhhaaSeqF
namespace Go.Proofs.Ytebanmigaikhhaa
open Go.RowKit Go.Sort

abbrev PV := V × Array Value
instance : Inhabited V := ⟨.mk 0 0 ⟨#[]⟩ []⟩
def ltP (p q : PV) : Bool := ltV p.1 q.1
theorem swo_ltP : SWO ltP := ⟨fun x => swo_ltV.irrefl x.1, fun x y z => swo_ltV.trans x.1 y.1 z.1, fun x y z => swo_ltV.ntrans x.1 y.1 z.1⟩
/-- An element: its value, its four cells, read in w0; nothing of it lies in the row. -/
def Good (w0 : World) (g : Nat) (p : PV) : Prop := VIn (fun b => b ≠ g) w0 p.1 p.2 ∧ p.1.kr
def RowP (W : World) (base g n c : Nat) (d : Array PV) : Prop :=
  d.size = n ∧ ∃ xs, W.ownsRow base 30 4 (.slice (some ⟨g, 0, none⟩) n c) n xs ∧ ∀ i, i < n → (d[i]!).2.size = 4 ∧ ∀ j, j < 4 → xs[i * 4 + j]? = (d[i]!).2[j]?
/-- The sort under way: the row holds d; nothing else has turned since w0. -/
structure St (w0 : World) (base g n c : Nat) (d : Array PV) (W : World) : Prop where
  row : RowP W base g n c d
  fr : Fr (fun q => q = g) w0 W
  good : ∀ i, i < n → Good w0 g d[i]!
variable {w0 W : World} {base g n c : Nat} {d : Array PV}
theorem St.sz (h : St w0 base g n c d W) : d.size = n := h.row.1
theorem St.frame {W' : World} (h : St w0 base g n c d W) (hf : Fr (fun _ => False) W W') : St w0 base g n c d W' := by
  obtain ⟨⟨h1, xs, ho, hx⟩, h2, h3⟩ := h
  exact ⟨⟨h1, xs, hf.own ho (fun _ _ => id), hx⟩, h2.trans' (hf.mono fun _ _ h => h.elim), h3⟩
/-- The cells of an element. -/
theorem St.cells (h : St w0 base g n c d W) {i : Nat} (hi : i < n) : ∃ a cap, (d[i]!).2 = #[.int .i64 (d[i]!).1.k, .int .i64 (d[i]!).1.n, .string (d[i]!).1.s, .slice a (d[i]!).1.l.length cap] ∧
    W.cell? ⟨g, i * 4, none⟩ = some (.int .i64 (d[i]!).1.k) ∧ W.cell? ⟨g, i * 4 + 1, none⟩ = some (.int .i64 (d[i]!).1.n) ∧ W.cell? ⟨g, i * 4 + 2, none⟩ = some (.string (d[i]!).1.s) ∧ W.cell? ⟨g, i * 4 + 3, none⟩ = some (.slice a (d[i]!).1.l.length cap) := by
  obtain ⟨⟨h1, xs, ho, hx⟩, -, h3⟩ := h
  obtain ⟨v, e, a, cap, us, rfl, -⟩ := (h3 i hi).1.open
  obtain ⟨-, hc⟩ := hx i hi
  have hcell : ∀ j, j < 4 → W.cell? ⟨g, i * 4 + j, none⟩ = (d[i]!).2[j]? := fun j hj => by
    rw [← hc j hj]
    rcases own_heap ho with ⟨e, -, -⟩ | ⟨g', cap', e, -, -, hcc⟩
    · cases e
    · simp only [Value.slice.injEq, Option.some.injEq, Addr.mk.injEq] at e
      obtain ⟨⟨rfl, -⟩, -, -⟩ := e
      exact hcc _ (by omega)
  refine ⟨a, cap, e, ?_, ?_, ?_, ?_⟩
  · have := hcell 0 (by omega); rw [e] at this; exact this
  · have := hcell 1 (by omega); rw [e] at this; exact this
  · have := hcell 2 (by omega); rw [e] at this; exact this
  · have := hcell 3 (by omega); rw [e] at this; exact this
theorem RowP.set (h : RowP W base g n c d) {k : Nat} (hk : k < n) (p : PV) (c0 c1 c2 c3 : Value) (hp : p.2 = #[c0, c1, c2, c3]) :
    RowP ((((W.setCell ⟨g, k * 4, none⟩ c0).setCell ⟨g, k * 4 + 1, none⟩ c1).setCell ⟨g, k * 4 + 2, none⟩ c2).setCell ⟨g, k * 4 + 3, none⟩ c3) base g n c (d.setIfInBounds k p) := by
  obtain ⟨h1, xs, ho, hx⟩ := h
  have hl : xs.length = n * 4 := ho.1
  refine ⟨by simpa using h1, _, own_set ho k hk c0 c1 c2 c3, fun i hi => ?_⟩
  by_cases e : i = k
  · subst e
    have e1 : (d.setIfInBounds i p)[i]! = p := by simp [getElem!_def, h1, hi]
    rw [e1, hp]
    refine ⟨rfl, fun j hj => ?_⟩
    have hj' : j = 0 ∨ j = 1 ∨ j = 2 ∨ j = 3 := by omega
    rcases hj' with rfl | rfl | rfl | rfl
    all_goals
      simp only [List.getElem?_set, List.length_set]
      simp
      try omega
  · have e1 : (d.setIfInBounds k p)[i]! = d[i]! := by
      simp only [getElem!_def, Array.getElem?_setIfInBounds]
      rw [if_neg (Ne.symm e)]
    rw [e1]
    refine ⟨(hx i hi).1, fun j hj => ?_⟩
    rw [← (hx i hi).2 j hj]
    simp only [List.getElem?_set, List.length_set]
    rw [if_neg (by omega), if_neg (by omega), if_neg (by omega), if_neg (by omega)]
/-- What an exchange wants, and what it leaves. -/
theorem St.swap (h : St w0 base g n c d W) {i j : Nat} (hi : i < n) (hj : j < n) (hg : g < w0.heap.size) {x0 x1 x2 x3 y0 y1 y2 y3 : Value} (hx : (d[i]!).2 = #[x0, x1, x2, x3]) (hy : (d[j]!).2 = #[y0, y1, y2, y3]) :
    (∀ q, W.frozen? ⟨g, q, none⟩ = false) ∧
    (∀ q, (((((W.setCell ⟨g, i * 4, none⟩ y0).setCell ⟨g, i * 4 + 1, none⟩ y1).setCell ⟨g, i * 4 + 2, none⟩ y2).setCell ⟨g, i * 4 + 3, none⟩ y3)).frozen? ⟨g, q, none⟩ = false) ∧
    (∀ q, q < n * 4 → ∃ z, ((((W.setCell ⟨g, i * 4, none⟩ y0).setCell ⟨g, i * 4 + 1, none⟩ y1).setCell ⟨g, i * 4 + 2, none⟩ y2).setCell ⟨g, i * 4 + 3, none⟩ y3).cell? ⟨g, q, none⟩ = some z) ∧
    St w0 base g n c (swp d i j) ((((((((W.setCell ⟨g, i * 4, none⟩ y0).setCell ⟨g, i * 4 + 1, none⟩ y1).setCell ⟨g, i * 4 + 2, none⟩ y2).setCell ⟨g, i * 4 + 3, none⟩ y3).setCell ⟨g, j * 4, none⟩ x0).setCell ⟨g, j * 4 + 1, none⟩ x1).setCell ⟨g, j * 4 + 2, none⟩ x2).setCell ⟨g, j * 4 + 3, none⟩ x3) := by
  obtain ⟨hr, h2, h3⟩ := h
  have hr1 := hr.set hi (d[j]!) y0 y1 y2 y3 hy
  have hr2 := hr1.set hj (d[i]!) x0 x1 x2 x3 hx
  obtain ⟨xs, ho, -⟩ := hr.2
  obtain ⟨xs1, ho1, -⟩ := hr1.2
  have f1 := (own_cell4 ho i hi y0 y1 y2 y3)
  have f2 := (own_cell4 ho1 j hj x0 x1 x2 x3)
  refine ⟨f1.2.2.2.2.1, f2.2.2.2.2.1, fun q hq => ?_, ⟨hr2, (h2.trans' f1.2.2.2.2.2.2.2).trans' f2.2.2.2.2.2.2.2, fun k hk => ?_⟩⟩
  · rcases own_heap ho1 with ⟨e, -, -⟩ | ⟨g', cap', e, -, -, hcc⟩
    · cases e
    · simp only [Value.slice.injEq, Option.some.injEq, Addr.mk.injEq] at e
      obtain ⟨⟨rfl, -⟩, -, -⟩ := e
      exact ⟨_, by rw [hcc q (by omega)]; exact List.getElem?_eq_getElem (by have := ho1.1; omega)⟩
  · have hsz := hr.1
    rw [swp_get d (by omega) (by omega)]
    split
    · exact h3 i hi
    · split
      · exact h3 j hj
      · exact h3 k hk
end Go.Proofs.Ytebanmigaikhhaa
