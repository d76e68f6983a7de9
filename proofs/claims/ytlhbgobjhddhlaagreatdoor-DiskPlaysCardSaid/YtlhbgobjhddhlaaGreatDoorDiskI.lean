/- Package disk: picked, Contains. -/
import Derived.Test.YtlhbgobjhddhlaaGreatDoorDiskH
namespace Go.Proofs.YtlhbgobjhddhlaaGreatDoor
open Go.RowKit
variable {base : Nat} {w w' : World} {s : DS}

/-- A slice of ints. -/
def Is (D : Nat → Prop) (w : World) (v : Value) (l : List Int) : Prop := Sl D w v l.length fun k u => u = .int .i64 (l.getD k 0)
theorem Is.frame {D S : Nat → Prop} {v : Value} {l : List Int} (h : Is D w v l) (hf : Fr S w w') (hd : ∀ k, D k → ¬ S k) : Is D w' v l := Sl.frame h hf hd fun _ _ _ h => h
/-- What a pick says. -/
def pick (l : List Int) (k n : Nat) : Nat := if l.length ≤ k then 0 else ((l.getD k 0) % ((n : Int) + 1)).toNat
theorem pick_le (l : List Int) (k n : Nat) : pick l k n ≤ n := by
  unfold pick
  split
  · omega
  · have h1 := Int.emod_lt_of_pos (l.getD k 0) (show (0 : Int) < (n : Int) + 1 by omega)
    omega
theorem tmod_pick (p : Int) (n : Nat) : (p.tmod ((n : Int) + 1) + n + 1).tmod ((n : Int) + 1) = p % ((n : Int) + 1) ∧ -((n : Int) + 1) < p.tmod ((n : Int) + 1) ∧ p.tmod ((n : Int) + 1) < (n : Int) + 1 := by
  have hpos : (0 : Int) < (n : Int) + 1 := by omega
  have h1 : p.tmod ((n : Int) + 1) < (n : Int) + 1 := Int.tmod_lt_of_pos p hpos
  have h2 : -((n : Int) + 1) < p.tmod ((n : Int) + 1) := by
    have := Int.tmod_lt_of_pos (-p) hpos
    rw [Int.neg_tmod] at this
    omega
  refine ⟨?_, h2, h1⟩
  rw [Int.tmod_eq_emod_of_nonneg (by omega)]
  have h3 : p.tmod ((n : Int) + 1) + n + 1 = p - ((n : Int) + 1) * p.tdiv ((n : Int) + 1) + ((n : Int) + 1) := by
    have := Int.tmod_add_mul_tdiv p ((n : Int) + 1)
    omega
  rw [h3, Int.add_emod_right, Int.sub_mul_emod_self_left]
set_option maxRecDepth 100000 in
set_option maxHeartbeats 1600000 in
theorem picked_any (D : Nat → Prop) (v : Value) (l : List Int) (h : Is D w v l) (hr : ∀ k, -9223372036854775808 ≤ l.getD k 0 ∧ l.getD k 0 ≤ 9223372036854775807) (k n : Nat) (hk : k ≤ 1099511627776) (hn : n ≤ 1099511627776) (hl : l.length ≤ 1099511627776) :
    Calls Tryz.prog 52 #[v, .int .i64 k, .int .i64 n] w fun e w' => e = .returned (.int .i64 (pick l k n)) ∧ w = w' := by
  obtain ⟨a, c, rfl, h1, h2, hc⟩ := h
  by_cases hlt : l.length ≤ k
  · have hp : pick l k n = 0 := by unfold pick; rw [if_pos hlt]
    rw [hp]
    have hltI : (l.length : Int) ≤ k := by omega
    clear hp hc
    go_enter Tryz.func52, Tryz.ntmps52
    go_wp2_with fail
    go_ret
    exact ⟨rfl, rfl⟩
  · obtain ⟨b, o, u, rfl, -, hcell, rfl⟩ := hc k (by omega)
    have hltI : ¬ (l.length : Int) ≤ k := by omega
    have hkI : (k : Int) < l.length := by omega
    obtain ⟨p, hp⟩ : ∃ p, l.getD k 0 = p := ⟨_, rfl⟩
    have hpr := hr k
    have hq := tmod_pick (l.getD k 0) n
    have hpe : (pick l k n : Int) = (l.getD k 0) % ((n : Int) + 1) := by
      unfold pick
      rw [if_neg hlt]
      exact Int.toNat_of_nonneg (Int.emod_nonneg _ (by omega))
    rw [hpe]
    rw [hp] at hcell hpr hq ⊢
    clear hpe hc hr hp
    obtain ⟨hq1, hq2, hq3⟩ := hq
    rw [← hq1]
    clear hq1
    have w1 : IntKind.i64.wrap ((n : Int) + 1) = (n : Int) + 1 := IntWalk.i64_in _ (by omega)
    have hz : ((n : Int) + 1 == 0) = false := by rw [beq_eq_false_iff_ne]; omega
    have hz' : ¬ ((n : Int) + 1 = 0) := by omega
    have w2 : IntKind.i64.wrap (p.tmod ((n : Int) + 1)) = p.tmod ((n : Int) + 1) := IntWalk.i64_in _ (by omega)
    have w3 : IntKind.i64.wrap (p.tmod ((n : Int) + 1) + n) = p.tmod ((n : Int) + 1) + n := IntWalk.i64_in _ (by omega)
    have w4 : IntKind.i64.wrap (p.tmod ((n : Int) + 1) + n + 1) = p.tmod ((n : Int) + 1) + n + 1 := IntWalk.i64_in _ (by omega)
    have hb5 := (tmod_pick (p.tmod ((n : Int) + 1) + n + 1) n).2
    have w5 : IntKind.i64.wrap ((p.tmod ((n : Int) + 1) + n + 1).tmod ((n : Int) + 1)) = (p.tmod ((n : Int) + 1) + n + 1).tmod ((n : Int) + 1) := IntWalk.i64_in _ (by omega)
    clear hb5
    go_enter Tryz.func52, Tryz.ntmps52
    go_wp2_with fail
    go_ret
    exact ⟨ret_int (Int.tmod_eq_emod_of_nonneg (by omega)).symm, rfl⟩
end Go.Proofs.YtlhbgobjhddhlaaGreatDoor
