/- What the laid variables of api's errors give where a row lists only three of them. -/
import Derived.Test.YtdcfidefkoamnaaDoorLaid
import Derived.Test.YtdcfidefkoamnaaDoorTaskA
namespace Go.Proofs.YtdcfidefkoamnaaDoor
open Go.ChangeShapes Go.WideShapes Go.ChangeAt Go.RowKit

/-- Where one of api's errors stands in a row's list. -/
def TabAt (L : List (String × DataW Unit)) (k i : Nat) : Prop := ∃ nm d, L[k]? = some (nm, .iface "*errors.errorString" (.ptr d)) ∧ Tryd.prog.globalNamed nm = some (sentG.getD i 0) ∧ (Tryd.prog.globals[sentG.getD i 0]?).map (·.type) = some 27
set_option maxRecDepth 100000 in
theorem laid_cell {W : World} (L : List (String × DataW Unit)) (hpl : (L.all fun x => x.2.handleName?.isNone) = true) (h : laidMetH Tryd.prog L W) (k i : Nat) (tab : TabAt L k i) : ∃ a : Addr, W.cell? ⟨sentG.getD i 0, 0, none⟩ = some (.iface 124 (.pointer (some a))) := by
  rw [MakeChecks.laidMetH_plain _ _ _ hpl] at h
  obtain ⟨ps, hL, hnd, hrows⟩ := h
  obtain ⟨parts, rfl, hlen, hp⟩ := laid_parts _ _ hL
  obtain ⟨nm, d, hx, hgn, hty⟩ := tab
  obtain ⟨part, hpart, g, t, cs, fuel, p, hg, ht, hv, hd, rfl⟩ := hp _ _ hx
  obtain rfl := Option.some.inj (hgn.symm.trans hg)
  obtain rfl := Option.some.inj (hty.symm.trans ht)
  obtain ⟨u, v, m, hcs, hnm, htr⟩ := trod_iface2 Tryd.underlying27 hd
  obtain rfl := Tryd.rowErr u hnm
  have hcs' : cs = #[.iface 124 v] := by cases cs; simp_all
  have hcell : W.cell? ⟨sentG.getD i 0, 0, none⟩ = some (.iface 124 v) := by
    rw [World.var?_cell hg hv 0, hcs']
    rfl
  have hmem : ∀ q, q ∈ MemPlace.row ⟨sentG.getD i 0, 0, none⟩ cs.size ++ p → q ∈ parts.flatten := fun q hq => List.mem_flatten.2 ⟨_, List.mem_of_getElem? hpart, hq⟩
  have hg0 : MemPlace.cell (sentG.getD i 0) 0 ∈ parts.flatten := hmem _ (List.mem_append_left _ (MemPlace.mem_row.2 ⟨0, by rw [hcs']; exact Nat.zero_lt_one, rfl⟩))
  have hok := (hrows _ _ hg0).2 _ _ hcell
  rcases open_ptr Tryd.underlying124 (by rw [show Tryd.prog.cellsOf 140 = 1 by kernel_rfl]; decide) hok ⟨m, htr⟩ with ⟨_, hd0, _⟩ | ⟨ab, ao, cs2, y, fuel2, rfl, hd2, rfl, hlen2, hcell2, hy⟩
  · cases hd0
  · exact ⟨_, hcell⟩
theorem of_laid3 {W : World} (L : List (String × DataW Unit)) (kx : List Nat) (hpl : (L.all fun x => x.2.handleName?.isNone) = true) (h3 : TabAt L (kx.getD 3 0) 3) (h4 : TabAt L (kx.getD 4 0) 4) (h8 : TabAt L (kx.getD 8 0) 8) (h : laidMetH Tryd.prog L W) : ∃ pa, S3 W pa := by
  obtain ⟨a3, h3⟩ := laid_cell L hpl h _ 3 h3
  obtain ⟨a4, h4⟩ := laid_cell L hpl h _ 4 h4
  obtain ⟨a8, h8⟩ := laid_cell L hpl h _ 8 h8
  refine ⟨fun i => if i = 3 then a3 else if i = 4 then a4 else a8, fun i hi => ?_⟩
  rcases hi with rfl | rfl | rfl
  · exact h3
  · exact h4
  · exact h8
end Go.Proofs.YtdcfidefkoamnaaDoor
