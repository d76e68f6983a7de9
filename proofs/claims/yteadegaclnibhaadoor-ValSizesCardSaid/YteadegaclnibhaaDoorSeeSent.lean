/- inglenooksee: which of api's errors one is. -/
import Derived.Test.YteadegaclnibhaaDoorSeeBare
import Derived.LaidEql
namespace Go.Proofs.YteadegaclnibhaaDoor
open Go.RowKit

/-- The variables of api's errors, in the order in which they are asked. -/
def sentG : List Nat := [4, 5, 3, 1, 2, 6, 7, 8, 9, 10, 11, 0, 12, 13, 14, 15, 16]
/-- The errors lie in their variables. -/
def Sents (w : World) (pa : Nat → Addr) : Prop := ∀ i, i < 17 → w.cell? ⟨sentG.getD i 0, 0, none⟩ = some (.iface 71 (.pointer (some (pa i))))
theorem Sents.frame {w w' : World} {pa : Nat → Addr} (h : Sents w pa) (hf : Fr (fun _ => False) w w') : Sents w' pa := fun i hi => hf.cell (h i hi) not_false

set_option maxHeartbeats 1600000 in
theorem sentinels_any (w : World) (pa : Nat → Addr) (h : Sents w pa) : Calls Tryd.prog 38 #[] w fun e w' => e = .returned (.slice (some ⟨w.heap.size, 0, none⟩) 17 17) ∧ w' = w.alloc (.cells #[.iface 71 (.pointer (some (pa 0))), .iface 71 (.pointer (some (pa 1))), .iface 71 (.pointer (some (pa 2))), .iface 71 (.pointer (some (pa 3))), .iface 71 (.pointer (some (pa 4))), .iface 71 (.pointer (some (pa 5))), .iface 71 (.pointer (some (pa 6))), .iface 71 (.pointer (some (pa 7))), .iface 71 (.pointer (some (pa 8))), .iface 71 (.pointer (some (pa 9))), .iface 71 (.pointer (some (pa 10))), .iface 71 (.pointer (some (pa 11))), .iface 71 (.pointer (some (pa 12))), .iface 71 (.pointer (some (pa 13))), .iface 71 (.pointer (some (pa 14))), .iface 71 (.pointer (some (pa 15))), .iface 71 (.pointer (some (pa 16)))] 28) := by
  have g0 : w.cell? ⟨4, 0, none⟩ = some (.iface 71 (.pointer (some (pa 0)))) := h 0 (by decide)
  have g1 : w.cell? ⟨5, 0, none⟩ = some (.iface 71 (.pointer (some (pa 1)))) := h 1 (by decide)
  have g2 : w.cell? ⟨3, 0, none⟩ = some (.iface 71 (.pointer (some (pa 2)))) := h 2 (by decide)
  have g3 : w.cell? ⟨1, 0, none⟩ = some (.iface 71 (.pointer (some (pa 3)))) := h 3 (by decide)
  have g4 : w.cell? ⟨2, 0, none⟩ = some (.iface 71 (.pointer (some (pa 4)))) := h 4 (by decide)
  have g5 : w.cell? ⟨6, 0, none⟩ = some (.iface 71 (.pointer (some (pa 5)))) := h 5 (by decide)
  have g6 : w.cell? ⟨7, 0, none⟩ = some (.iface 71 (.pointer (some (pa 6)))) := h 6 (by decide)
  have g7 : w.cell? ⟨8, 0, none⟩ = some (.iface 71 (.pointer (some (pa 7)))) := h 7 (by decide)
  have g8 : w.cell? ⟨9, 0, none⟩ = some (.iface 71 (.pointer (some (pa 8)))) := h 8 (by decide)
  have g9 : w.cell? ⟨10, 0, none⟩ = some (.iface 71 (.pointer (some (pa 9)))) := h 9 (by decide)
  have g10 : w.cell? ⟨11, 0, none⟩ = some (.iface 71 (.pointer (some (pa 10)))) := h 10 (by decide)
  have g11 : w.cell? ⟨0, 0, none⟩ = some (.iface 71 (.pointer (some (pa 11)))) := h 11 (by decide)
  have g12 : w.cell? ⟨12, 0, none⟩ = some (.iface 71 (.pointer (some (pa 12)))) := h 12 (by decide)
  have g13 : w.cell? ⟨13, 0, none⟩ = some (.iface 71 (.pointer (some (pa 13)))) := h 13 (by decide)
  have g14 : w.cell? ⟨14, 0, none⟩ = some (.iface 71 (.pointer (some (pa 14)))) := h 14 (by decide)
  have g15 : w.cell? ⟨15, 0, none⟩ = some (.iface 71 (.pointer (some (pa 15)))) := h 15 (by decide)
  have g16 : w.cell? ⟨16, 0, none⟩ = some (.iface 71 (.pointer (some (pa 16)))) := h 16 (by decide)
  clear h
  generalize pa 0 = a0 at *
  generalize pa 1 = a1 at *
  generalize pa 2 = a2 at *
  generalize pa 3 = a3 at *
  generalize pa 4 = a4 at *
  generalize pa 5 = a5 at *
  generalize pa 6 = a6 at *
  generalize pa 7 = a7 at *
  generalize pa 8 = a8 at *
  generalize pa 9 = a9 at *
  generalize pa 10 = a10 at *
  generalize pa 11 = a11 at *
  generalize pa 12 = a12 at *
  generalize pa 13 = a13 at *
  generalize pa 14 = a14 at *
  generalize pa 15 = a15 at *
  generalize pa 16 = a16 at *
  go_enter Tryd.func38, Tryd.ntmps38
  go_wp2_with fail
  go_ret
  exact ⟨rfl, rfl⟩

/-- Where an error lies. -/
def Rowed (w : World) (a : Addr) : Prop := ∃ c t, w.heap[a.block]? = some (.cells c t)
theorem Rowed.frame {w w' : World} {a : Addr} (h : Rowed w a) (hf : Fr (fun _ => False) w w') : Rowed w' a := by
  obtain ⟨c, t, h⟩ := h
  exact ⟨c, t, hf.heap h not_false⟩

theorem eql_same (a : Addr) (w : World) : (binOp .eql 28 (.iface 71 (.pointer (some a))) (.iface 71 (.pointer (some a)))).run Tryd.prog w = .ok (.bool true) w := by
  obtain ⟨i, hi, hc⟩ : ∃ i, Tryd.prog.info? 71 = some i ∧ i.comparable = true := by
    have h : (Tryd.prog.info? 71).map (·.comparable) = some true := by kernel_rfl
    cases hh : Tryd.prog.info? 71 with
    | none => rw [hh] at h; cases h
    | some i => rw [hh] at h; exact ⟨i, rfl, by simpa using h⟩
  obtain ⟨j, hj⟩ : ∃ j, Tryd.prog.info? 89 = some j := by
    have h : (Tryd.prog.info? 89).isSome = true := by kernel_rfl
    exact Option.isSome_iff_exists.1 h
  exact run_eql_iface_ptr_same w a Tryd.underlying28 Tryd.underlying71 hi hc hj
theorem eql_other {a b : Addr} {w : World} (hne : a ≠ b) (ha : Rowed w a) (hb : Rowed w b) : (binOp .eql 28 (.iface 71 (.pointer (some a))) (.iface 71 (.pointer (some b)))).run Tryd.prog w = .ok (.bool false) w := by
  obtain ⟨i, hi, hc⟩ : ∃ i, Tryd.prog.info? 71 = some i ∧ i.comparable = true := by
    have h : (Tryd.prog.info? 71).map (·.comparable) = some true := by kernel_rfl
    cases hh : Tryd.prog.info? 71 with
    | none => rw [hh] at h; cases h
    | some i => rw [hh] at h; exact ⟨i, rfl, by simpa using h⟩
  obtain ⟨j, hj, hs⟩ : ∃ j, Tryd.prog.info? 89 = some j ∧ j.size ≠ 0 := by
    have h : (Tryd.prog.info? 89).map (fun j => j.size != 0) = some true := by kernel_rfl
    cases hh : Tryd.prog.info? 89 with
    | none => rw [hh] at h; cases h
    | some i => rw [hh] at h; exact ⟨i, rfl, by simpa using h⟩
  obtain ⟨ca, ta, ha⟩ := ha
  obtain ⟨cb, tb, hb⟩ := hb
  exact run_eql_iface_ptr_other w Tryd.underlying28 Tryd.underlying71 hi hc hj hs hne ha hb

theorem alike_same (a : Addr) (w : World) : Calls Tryd.prog 39 #[.iface 71 (.pointer (some a)), .iface 71 (.pointer (some a))] w fun e w' => e = .returned (.bool true) ∧ w = w' := by
  have h := eql_same a
  go_enter Tryd.func39, Tryd.ntmps39
  go_wp2
  go_ret
  exact ⟨rfl, rfl⟩
theorem alike_other {a b : Addr} {w : World} (hne : a ≠ b) (ha : Rowed w a) (hb : Rowed w b) : Calls Tryd.prog 39 #[.iface 71 (.pointer (some a)), .iface 71 (.pointer (some b))] w fun e w' => e = .returned (.bool false) ∧ w = w' := by
  have h := eql_other hne ha hb
  clear hne ha hb
  go_enter Tryd.func39, Tryd.ntmps39
  go_wp2
  go_ret
  exact ⟨rfl, rfl⟩
end Go.Proofs.YteadegaclnibhaaDoor
