/- Slices of structs that came in: what a reading of one says of the world, element by element. -/
import Derived.Test.YtlhbgobjhddhlaaGreatDoorRow
import Derived.Test.YtlhbgobjhddhlaaGreatDoorRk
import Derived.ChangeArms
namespace Go.Proofs.YtlhbgobjhddhlaaGreatDoor
open Go.ChangeShapes Go.WideShapes Go.ChangeAt Go.RowKit
section
variable {H : Type} {enc : TypeId × Value → H} {P : Program}

theorem choose_row {α : Type} {len : Nat} {R : Nat → α → Prop} (h : ∀ i, i < len → ∃ x, R i x) : ∃ l : List α, l.length = len ∧ ∀ i, i < len → ∃ x, l[i]? = some x ∧ R i x := by
  induction len with
  | zero => exact ⟨[], rfl, fun i hi => by omega⟩
  | succ n ih =>
    obtain ⟨l, hl, hr⟩ := ih fun i hi => h i (by omega)
    obtain ⟨x, hx⟩ := h n (by omega)
    refine ⟨l ++ [x], by simp [hl], fun i hi => ?_⟩
    by_cases hin : i < n
    · obtain ⟨y, hy, hr⟩ := hr i hin
      exact ⟨y, by rw [List.getElem?_append_left (by omega)]; exact hy, hr⟩
    · obtain rfl : i = n := by omega
      exact ⟨x, by rw [List.getElem?_append_right (by omega), hl]; simp, hx⟩

/-- A slice of elements of k cells that came in. -/
theorem open_rows {t q : TypeId} {k : Nat} {W : World} (ht : P.underlying t = some (.slice q)) (cq : P.cellsOf q = k) (hk : 0 < k) {fuel : Nat} {cs : List Value} {y : DataW H × List MemPlace}
    (h : DataW.trod enc P W 0 (fun _ => true) true fuel t cs = some y) :
    ∃ (a : Option Addr) (len cap : Nat), cs = [.slice a len cap] ∧ len ≤ cap ∧ cap ≤ maxLen ∧ (a = none → len = 0 ∧ cap = 0) ∧
      ∀ i, i < len → ∃ (b o : Nat) (us : List Value) (n : Nat) (e : DataW H × List MemPlace), a = some ⟨b, o, none⟩ ∧ us.length = k ∧ (∀ j u, us[j]? = some u → W.cell? ⟨b, o + i * k + j, none⟩ = some u) ∧ DataW.trod enc P W 0 (fun _ => true) true n q us = some e := by
  rcases DataW.trod_slice ht h with ⟨rfl, rfl⟩ | ⟨a, len, cap, elems, rest, n, rfl, rfl, rfl, -, hl, hm, hel, hin, -⟩
  · exact ⟨none, 0, 0, rfl, Nat.le_refl _, Nat.zero_le _, fun _ => ⟨rfl, rfl⟩, fun i hi => by omega⟩
  · refine ⟨some a, len, cap, rfl, hl, hm, (fun h => by cases h), fun i hi => ?_⟩
    have h1 := hin i hi
    have h2 : elems[i]? = some elems[i] := List.getElem?_eq_getElem (by omega)
    rw [h2, cq] at h1
    obtain ⟨cs', hcells, htr⟩ := Option.bind_eq_some_iff.1 h1
    obtain ⟨-, hcl, hcell⟩ := World.cells?_some hcells
    obtain ⟨b, o, sp⟩ := a
    have hsp : sp = none := by
      have g1 := hin 0 (by omega)
      rw [List.getElem?_eq_getElem (by omega), cq] at g1
      obtain ⟨cs0, hcells0, -⟩ := Option.bind_eq_some_iff.1 g1
      obtain ⟨-, hcl0, hcell0⟩ := World.cells?_some hcells0
      have h3 := hcell0 0 hk
      rw [List.getElem?_eq_getElem (by omega)] at h3
      simpa [Addr.add] using World.cell?_spot h3
    subst hsp
    refine ⟨b, o, cs', n, elems[i], rfl, hcl, fun j u hj => ?_, htr⟩
    have hjk : j < k := by have := (List.getElem?_eq_some_iff.1 hj).1; omega
    have h3 := hcell j hjk
    rw [addr_add, addr_add] at h3
    rw [h3]
    exact hj

/-- A slice of structs that came in, read as a list. -/
theorem open_structs {α : Type} {t q : TypeId} {k : Nat} {W : World} (encA : α → List Value) (Good : α → Prop) (ht : P.underlying t = some (.slice q)) (cq : P.cellsOf q = k) (hk : 0 < k)
    (hA : ∀ n us (e : DataW H × List MemPlace), DataW.trod enc P W 0 (fun _ => true) true n q us = some e → us.length = k → ∃ x : α, us = encA x ∧ Good x) {fuel : Nat} {cs : List Value} {y : DataW H × List MemPlace}
    (h : DataW.trod enc P W 0 (fun _ => true) true fuel t cs = some y) : ∃ (l : List α) (v : Value), cs = [v] ∧ Rk k encA (fun _ => True) W v l ∧ ∀ x ∈ l, Good x := by
  obtain ⟨a, len, cap, rfl, h1, h2, h3, h4⟩ := open_rows ht cq hk h
  have key : ∀ i, i < len → ∃ x : α, Good x ∧ ∃ b o, a = some ⟨b, o, none⟩ ∧ ∀ j u, (encA x)[j]? = some u → W.cell? ⟨b, o + i * k + j, none⟩ = some u := by
    intro i hi
    obtain ⟨b, o, us, n, e, ha, hl, hc, htr⟩ := h4 i hi
    obtain ⟨x, rfl, hg⟩ := hA n us e htr hl
    exact ⟨x, hg, b, o, ha, hc⟩
  obtain ⟨l, hl, hx⟩ := choose_row key
  refine ⟨l, _, rfl, ⟨a, cap, by rw [hl], by omega, h2, fun e => (h3 e).2, fun i x hi => ?_⟩, fun x hm => ?_⟩
  · have hil := (List.getElem?_eq_some_iff.1 hi).1
    obtain ⟨y, hy, -, b, o, ha, hc⟩ := hx i (by omega)
    rw [hi] at hy
    obtain rfl := Option.some.inj hy
    exact ⟨b, o, ha, trivial, hc⟩
  · obtain ⟨i, hi, rfl⟩ := List.getElem_of_mem hm
    obtain ⟨y, hy, hg, -⟩ := hx i (by omega)
    rw [List.getElem?_eq_getElem hi] at hy
    obtain rfl := Option.some.inj hy
    exact hg
end
end Go.Proofs.YtlhbgobjhddhlaaGreatDoor
