/- What the laid variables of api's errors give, in whatever order a row lists them: each holds a pointer into a row of its own. -/
import Derived.Test.YtlhbgobjhddhlaaGreatDoorRows
import Derived.Test.YtlhbgobjhddhlaaGreatDoorSee
import Derived.Test.YtlhbgobjhddhlaaGreatDoorRow
import Derived.MakeChecks
import Derived.ChangeArms
import Derived.LaidLaws
namespace Go.Proofs.YtlhbgobjhddhlaaGreatDoor
open Go.ChangeShapes Go.WideShapes Go.ChangeAt Go.RowKit

/-- One listed variable's part of the places. -/
def PartOf (P : Program) (W : World) (x : String × DataW Unit) (part : List MemPlace) : Prop :=
  ∃ g t cs fuel p, P.globalNamed x.1 = some g ∧ (P.globals[g]?).map (·.type) = some t ∧ W.var? P x.1 = some cs ∧ DataW.trod (fun _ => ()) P W 0 (fun _ => true) false fuel t cs.toList = some (x.2, p) ∧ part = MemPlace.row ⟨g, 0, none⟩ cs.size ++ p
theorem laid_parts {P : Program} {W : World} : ∀ (l : List (String × DataW Unit)) (ps : List MemPlace), DataW.LaidVars P W l ps → ∃ parts : List (List MemPlace), ps = parts.flatten ∧ parts.length = l.length ∧ ∀ (i : Nat) x, l[i]? = some x → ∃ part, parts[i]? = some part ∧ PartOf P W x part
  | [], ps, h => by
    have h : ps = [] := h
    exact ⟨[], by simp [h], rfl, fun i x hx => by simp at hx⟩
  | (n, d) :: r, ps, h => by
    obtain ⟨g, t, cs, fuel, p, q, h1, h2, h3, h4, h5, rfl⟩ := h
    obtain ⟨parts, rfl, hlen, hp⟩ := laid_parts r q h5
    refine ⟨(MemPlace.row ⟨g, 0, none⟩ cs.size ++ p) :: parts, by simp, by simp [hlen], fun i x hx => ?_⟩
    cases i with
    | zero =>
      simp at hx
      subst hx
      exact ⟨_, rfl, g, t, cs, fuel, p, h1, h2, h3, h4, rfl⟩
    | succ i => simpa using hp i x (by simpa using hx)

theorem trod_iface2 {P : Program} {W : World} {fuel : Nat} {t : TypeId} {cs : List Value} {nm : String} {d : DataW Unit} {p : List MemPlace} {ms : Array (String × TypeId)} (ht : P.underlying t = some (.interface ms))
    (h : DataW.trod (fun _ => ()) P W 0 (fun _ => true) false fuel t cs = some (.iface nm d, p)) : ∃ u v m, cs = [.iface u v] ∧ P.typeName? 3 u = some nm ∧ DataW.trod (fun _ => ()) P W 0 (fun _ => true) false m u v.cells.toList = some (d, p) := by
  cases fuel with
  | zero => simp [DataW.trod] at h
  | succ n =>
    unfold DataW.trod at h
    rw [ht] at h
    split at h <;> simp_all
    split at h <;> simp_all
    exact ⟨_, _, ⟨rfl, rfl⟩, by assumption, n, h.1⟩
theorem Tryz.star : "*" ++ "errors.errorString" = "*errors.errorString" := by decide
theorem Tryz.rowErr (u : TypeId) (h : Tryz.prog.typeName? 3 u = some "*errors.errorString") : u = 167 :=
  typeName_ptr_named (nm := "errors.errorString") (by rw [Tryz.star]; kernel_rfl) (by kernel_rfl) (by decide) u (by rw [Tryz.star]; exact h)

/-- Where each of api's errors stands in a row's list. -/
def LaidTab (L : List (String × DataW Unit)) (kx : List Nat) : Prop := ∀ i, i < 17 → ∃ nm d, L[kx.getD i 0]? = some (nm, .iface "*errors.errorString" (.ptr d)) ∧ Tryz.prog.globalNamed nm = some (sentG.getD i 0) ∧ (Tryz.prog.globals[sentG.getD i 0]?).map (·.type) = some 26

set_option maxRecDepth 100000 in
theorem of_laidx {W : World} (L : List (String × DataW Unit)) (kx : List Nat) (hpl : (L.all fun x => x.2.handleName?.isNone) = true) (hkx : ∀ i, i < 17 → ∀ j, j < 17 → i ≠ j → kx.getD i 0 ≠ kx.getD j 0) (tab : LaidTab L kx) (h : laidMetH Tryz.prog L W) : ∃ pa, Sent17 W pa := by
  rw [MakeChecks.laidMetH_plain _ _ _ hpl] at h
  obtain ⟨ps, hL, hnd, hrows⟩ := h
  obtain ⟨parts, rfl, hlen, hp⟩ := laid_parts _ _ hL
  have key : ∀ i, i < 17 → ∃ a : Addr, W.cell? ⟨sentG.getD i 0, 0, none⟩ = some (.iface 167 (.pointer (some a))) ∧ Rowed W a ∧ a.spot = none ∧ ∃ part, parts[kx.getD i 0]? = some part ∧ MemPlace.cell a.block a.off ∈ part := by
    intro i hi
    obtain ⟨nm, d, hx, hgn, hty⟩ := tab i hi
    obtain ⟨part, hpart, g, t, cs, fuel, p, hg, ht, hv, hd, rfl⟩ := hp _ _ hx
    obtain rfl := Option.some.inj (hgn.symm.trans hg)
    obtain rfl := Option.some.inj (hty.symm.trans ht)
    obtain ⟨u, v, m, hcs, hnm, htr⟩ := trod_iface2 Tryz.underlying26 hd
    obtain rfl := Tryz.rowErr u hnm
    have hcs' : cs = #[.iface 167 v] := by cases cs; simp_all
    have hcell : W.cell? ⟨sentG.getD i 0, 0, none⟩ = some (.iface 167 v) := by
      rw [World.var?_cell hg hv 0, hcs']
      rfl
    have hmem : ∀ q, q ∈ MemPlace.row ⟨sentG.getD i 0, 0, none⟩ cs.size ++ p → q ∈ parts.flatten := fun q hq => List.mem_flatten.2 ⟨_, List.mem_of_getElem? hpart, hq⟩
    have hg0 : MemPlace.cell (sentG.getD i 0) 0 ∈ parts.flatten := hmem _ (List.mem_append_left _ (MemPlace.mem_row.2 ⟨0, by rw [hcs']; exact Nat.zero_lt_one, rfl⟩))
    have hok := (hrows _ _ hg0).2 _ _ hcell
    rcases open_ptr Tryz.underlying167 (by rw [show Tryz.prog.cellsOf 183 = 1 by kernel_rfl]; decide) hok ⟨m, htr⟩ with ⟨_, hd0, _⟩ | ⟨ab, ao, cs2, y, fuel2, rfl, hd2, rfl, hlen2, hcell2, hy⟩
    · cases hd0
    · have hpl : MemPlace.cell ab ao ∈ MemPlace.row ⟨sentG.getD i 0, 0, none⟩ cs.size ++ (MemPlace.row ⟨ab, ao, none⟩ (Tryz.prog.cellsOf 183) ++ y.2) :=
        List.mem_append_right _ (List.mem_append_left _ (MemPlace.mem_row.2 ⟨0, by rw [show Tryz.prog.cellsOf 183 = 1 by kernel_rfl]; decide, rfl⟩))
      exact ⟨⟨ab, ao, none⟩, hcell, (hrows ab ao (hmem _ hpl)).1, rfl, _, hpart, hpl⟩
  classical
  have key2 : ∀ i (hi : i < 17), ∃ a : Addr, (if h : i < 17 then (key i h).choose else ⟨0, 0, none⟩) = a ∧ W.cell? ⟨sentG.getD i 0, 0, none⟩ = some (.iface 167 (.pointer (some a))) ∧ Rowed W a ∧ a.spot = none ∧ ∃ part, parts[kx.getD i 0]? = some part ∧ MemPlace.cell a.block a.off ∈ part := fun i hi =>
    ⟨_, by rw [dif_pos hi], (key i hi).choose_spec⟩
  refine ⟨fun i => if h : i < 17 then (key i h).choose else ⟨0, 0, none⟩, fun i hi => ?_, fun i hi => ?_, fun i j hi hj hij e => ?_⟩
  · obtain ⟨a, ha, h1, _⟩ := key2 i hi
    simp only [ha]
    exact h1
  · obtain ⟨a, ha, _, h2, _⟩ := key2 i hi
    simp only [ha]
    exact h2
  · obtain ⟨a, ha, _, _, _, pi, hpi, hmi⟩ := key2 i hi
    obtain ⟨b, hb, _, _, _, pj, hpj, hmj⟩ := key2 j hj
    simp only [ha, hb] at e
    subst e
    have hdis := (List.pairwise_flatten.1 hnd).2
    rw [List.pairwise_iff_getElem] at hdis
    obtain ⟨li, rfl⟩ := List.getElem?_eq_some_iff.1 hpi
    obtain ⟨lj, rfl⟩ := List.getElem?_eq_some_iff.1 hpj
    rcases Nat.lt_or_gt_of_ne (hkx i hi j hj hij) with h' | h'
    · exact hdis _ _ li lj h' _ hmi _ hmj rfl
    · exact hdis _ _ lj li h' _ hmj _ hmi rfl
end Go.Proofs.YtlhbgobjhddhlaaGreatDoor
