/- What the laid variables of api's errors give where a row lists only the six that disks tell. -/
import Derived.Test.YtlhbgobjhddhlaaDoorLaid
import Derived.Test.YtlhbgobjhddhlaaDoorDiskA
namespace Go.Proofs.YtlhbgobjhddhlaaDoor
open Go.ChangeShapes Go.WideShapes Go.ChangeAt Go.RowKit

/-- Where one of api's errors stands in a row's list. -/
def TabAt (L : List (String × DataW Unit)) (k i : Nat) : Prop := ∃ nm d, L[k]? = some (nm, .iface "*errors.errorString" (.ptr d)) ∧ Tryd.prog.globalNamed nm = some (sentG.getD i 0) ∧ (Tryd.prog.globals[sentG.getD i 0]?).map (·.type) = some 27
set_option maxRecDepth 100000 in
theorem laid_cell {W : World} (L : List (String × DataW Unit)) (hpl : (L.all fun x => x.2.handleName?.isNone) = true) (h : laidMetH Tryd.prog L W) (k i : Nat) (tab : TabAt L k i) : ∃ a : Addr, W.cell? ⟨sentG.getD i 0, 0, none⟩ = some (.iface 148 (.pointer (some a))) := by
  rw [MakeChecks.laidMetH_plain _ _ _ hpl] at h
  obtain ⟨ps, hL, hnd, hrows⟩ := h
  obtain ⟨parts, rfl, hlen, hp⟩ := laid_parts _ _ hL
  obtain ⟨nm, d, hx, hgn, hty⟩ := tab
  obtain ⟨part, hpart, g, t, cs, fuel, p, hg, ht, hv, hd, rfl⟩ := hp _ _ hx
  obtain rfl := Option.some.inj (hgn.symm.trans hg)
  obtain rfl := Option.some.inj (hty.symm.trans ht)
  obtain ⟨u, v, m, hcs, hnm, htr⟩ := trod_iface2 Tryd.underlying27 hd
  obtain rfl := Tryd.rowErr u hnm
  have hcs' : cs = #[.iface 148 v] := by cases cs; simp_all
  have hcell : W.cell? ⟨sentG.getD i 0, 0, none⟩ = some (.iface 148 v) := by
    rw [World.var?_cell hg hv 0, hcs']
    rfl
  have hmem : ∀ q, q ∈ MemPlace.row ⟨sentG.getD i 0, 0, none⟩ cs.size ++ p → q ∈ parts.flatten := fun q hq => List.mem_flatten.2 ⟨_, List.mem_of_getElem? hpart, hq⟩
  have hg0 : MemPlace.cell (sentG.getD i 0) 0 ∈ parts.flatten := hmem _ (List.mem_append_left _ (MemPlace.mem_row.2 ⟨0, by rw [hcs']; exact Nat.zero_lt_one, rfl⟩))
  have hok := (hrows _ _ hg0).2 _ _ hcell
  rcases open_ptr Tryd.underlying148 (by rw [show Tryd.prog.cellsOf 164 = 1 by kernel_rfl]; decide) hok ⟨m, htr⟩ with ⟨_, hd0, _⟩ | ⟨ab, ao, cs2, y, fuel2, rfl, hd2, rfl, hlen2, hcell2, hy⟩
  · cases hd0
  · exact ⟨_, hcell⟩
theorem of_laid6 {W : World} (L : List (String × DataW Unit)) (kx : List Nat) (hpl : (L.all fun x => x.2.handleName?.isNone) = true) (tab : ∀ i, [4, 5, 6, 7, 8, 9].contains i = true → TabAt L (kx.getD i 0) i) (h : laidMetH Tryd.prog L W) : ∃ pa, S6 W.heap.size W pa := by
  have key : ∀ i : Nat, ∃ a : Addr, i ∈ [4, 5, 6, 7, 8, 9] → W.cell? ⟨sentG.getD i 0, 0, none⟩ = some (.iface 148 (.pointer (some a))) := fun i => by
    by_cases hi : i ∈ [4, 5, 6, 7, 8, 9]
    · obtain ⟨a, ha⟩ := laid_cell L hpl h _ i (tab i (by simpa using hi))
      exact ⟨a, fun _ => ha⟩
    · exact ⟨⟨0, 0, none⟩, fun h => absurd h hi⟩
  obtain ⟨pa, hpa⟩ := Classical.axiomOfChoice key
  exact ⟨pa, fun i hi => ⟨hpa i hi, World.block_lt_of_cell? W _ (hpa i hi)⟩⟩
end Go.Proofs.YtlhbgobjhddhlaaDoor
