/- Package disk: Arm; the closure of Crash. -/
import Derived.Test.YtlhbgobjhddhlaaGreatDoorDiskJ
namespace Go.Proofs.YtlhbgobjhddhlaaGreatDoor
open Go.RowKit
variable {base : Nat} {w w' : World} {s : DS}

def armS (s : DS) (n : Int) : DS := { s with armed := n.toNat }
set_option maxRecDepth 100000 in
theorem arm_any (h : DAt base w s) (n : Int) (hn : n ≤ 9223372036854775807) :
    Calls Tryz.prog 24 #[.pointer (some ⟨s.X, 0, none⟩), .int .i64 n] w fun e w' => e = .returned (.tuple #[]) ∧ DAt base w' (armS s n) ∧ Fr (fun k => k = s.X) w w' := by
  obtain ⟨-, -, -, -, -, c5, -, -, fz⟩ := h.cells
  have f5 := fz 5
  have hm : max n 0 = (n.toNat : Int) := by omega
  have hF := (Fr.refl (fun k => k = s.X) w).setCell (p := ⟨s.X, 5, none⟩) (.inl rfl) (.int .i64 (n.toNat : Int))
  have hx := setCell_row 5 (.int .i64 (n.toNat : Int)) h.heap
  simp only [List.setIfInBounds_toArray, List.set_cons_zero, List.set_cons_succ] at hx
  have hD : DAt base (w.setCell ⟨s.X, 5, none⟩ (.int .i64 (n.toNat : Int))) (armS s n) := h.turn _ hF rfl ⟨rfl, rfl, rfl, rfl, rfl, rfl, rfl, rfl⟩ hx (by have := h.cn; simp only [armS]; omega)
  have HD := hid hD; have HF := hid hF
  clear h hF hx hD fz
  by_cases hn0 : n ≤ 0
  · have e0 : (n.toNat : Int) = 0 := by omega
    rw [e0] at hm HD HF
    clear e0
    go_enter Tryz.func24, Tryz.ntmps24
    go_wp2_with fail
    all_goals
      go_end0
      first
        | exact ⟨rfl, HD.out, HF.out⟩
        | (obtain rfl : n = 0 := by omega
           exact ⟨rfl, HD.out, HF.out⟩)
  · have e0 : (n.toNat : Int) = n := by omega
    rw [e0] at hm HD HF
    clear e0
    go_enter Tryz.func24, Tryz.ntmps24
    go_wp2_with fail
    all_goals
      go_end0
      exact ⟨rfl, HD.out, HF.out⟩
set_option maxRecDepth 100000 in
theorem crash1_any (a b : Nat) (i j : Nat) (ha : w.cell? ⟨a, 0, none⟩ = some (.int .i64 i)) (hb : w.cell? ⟨b, 0, none⟩ = some (.int .i64 j)) (hi : i ≤ 4611686018427387904) (hj : j ≤ 4611686018427387904) :
    Calls Tryz.prog 56 #[.pointer (some ⟨a, 0, none⟩), .pointer (some ⟨b, 0, none⟩)] w fun e w' => e = .returned (.int .i64 ((i : Int) - j)) ∧ ∃ q, w' = w.drewN q := by
  have w1 : IntKind.i64.wrap ((i : Int) - j) = (i : Int) - j := IntWalk.i64_in _ (by omega)
  go_enter Tryz.func56, Tryz.ntmps56
  go_wp2_with fail
  go_quiet (fail)
  go_wp2_with fail
  go_ret
  exact ⟨rfl, _, rfl⟩
end Go.Proofs.YtlhbgobjhddhlaaGreatDoor
