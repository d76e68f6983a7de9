/- Package disk: valid, Create. -/
import Derived.Test.YtlhbgobjhddhlaaGreatDoorDiskC
import Derived.Test.YtlhbgobjhddhlaaGreatDoorPrinted
namespace Go.Proofs.YtlhbgobjhddhlaaGreatDoor
open Go.RowKit
variable {base : Nat} {w w' : World} {s : DS}

def okB (c : UInt8) : Bool := decide ((97 ≤ c.toNat ∧ c.toNat ≤ 122) ∨ (48 ≤ c.toNat ∧ c.toNat ≤ 57) ∨ c.toNat = 46 ∨ c.toNat = 45 ∨ c.toNat = 95)
def okN (s : ByteArray) : Bool := decide (1 ≤ s.size ∧ s.size ≤ 64) && s.data.toList.all okB
theorem okN_size {s : ByteArray} (h : okN s = true) : 1 ≤ s.size ∧ s.size ≤ 64 := by
  unfold okN at h
  simp only [Bool.and_eq_true, decide_eq_true_eq] at h
  exact h.1
set_option maxRecDepth 100000 in
set_option maxHeartbeats 1600000 in
theorem valid_any (s : ByteArray) (hs : s.size ≤ 1099511627776) (w : World) : Calls Tryz.prog 38 #[.string s] w fun e w' => e = .returned (.bool (okN s)) ∧ w = w' := by
  by_cases h1 : s.size < 1
  · have HO := hid (show okN s = false by unfold okN; rw [decide_eq_false (by omega)]; rfl)
    have h1' : (s.size : Int) < 1 := by omega
    go_enter Tryz.func38, Tryz.ntmps38
    go_wp2_with fail
    go_ret
    exact ⟨by rw [HO.out]; rfl, rfl⟩
  by_cases h2 : 64 < s.size
  · have HO := hid (show okN s = false by unfold okN; rw [decide_eq_false (by omega)]; rfl)
    have h1' : ¬ (s.size : Int) < 1 := by omega
    have h2' : (64 : Int) < s.size := by omega
    go_enter Tryz.func38, Tryz.ntmps38
    go_wp2_with fail
    go_ret
    exact ⟨by rw [HO.out]; rfl, rfl⟩
  have h1' : ¬ (s.size : Int) < 1 := by omega
  have h2' : ¬ (64 : Int) < s.size := by omega
  have hbd : okN s = s.data.toList.all okB := by unfold okN; rw [decide_eq_true (by omega)]; rfl
  rw [hbd]
  clear hbd
  obtain ⟨ans, hans⟩ : ∃ b, s.data.toList.all okB = b := ⟨_, rfl⟩
  rw [hans]
  have HANS := hid hans
  clear hans
  go_enter Tryz.func38, Tryz.ntmps38
  go_wp2_with fail
  go_loopw [15] (fun i wr => ∃ k : Nat, k ≤ s.size ∧ i = .int .i64 k ∧ w = wr ∧ ∀ j, j < k → okB (s.data.toList.getD j 0) = true) (fun i _ => s.size - (intOf i).toNat)
  case atStart => exact ⟨0, Nat.zero_le _, rfl, rfl, fun j hj => by omega⟩
  case round =>
    obtain ⟨k, hk, rfl, rfl, hall⟩ := hrel
    have hlen : s.data.toList.length = s.size := by simp
    by_cases hlt : k < s.size
    · have hkI : (k : Int) < s.size := by omega
      have hbk : (s.data.toList.getD k 0).toNat = s[k].toNat := by
        have : k < s.data.toList.length := by simpa using hlt
        simp [List.getD, hlt]; rfl
      have HALL := hid hall
      have hok : okB (s.data.toList.getD k 0) = decide ((97 ≤ s[k].toNat ∧ s[k].toNat ≤ 122) ∨ (48 ≤ s[k].toNat ∧ s[k].toNat ≤ 57) ∨ s[k].toNat = 46 ∨ s[k].toNat = 45 ∨ s[k].toNat = 95) := by unfold okB; rw [hbk]
      have HYES := hid (show ((97 ≤ s[k].toNat ∧ s[k].toNat ≤ 122) ∨ (48 ≤ s[k].toNat ∧ s[k].toNat ≤ 57) ∨ s[k].toNat = 46 ∨ s[k].toNat = 45 ∨ s[k].toNat = 95) → okB (s.data.toList.getD k 0) = true from fun hb => hok.trans (decide_eq_true hb))
      have HNO := hid (show ¬ ((97 ≤ s[k].toNat ∧ s[k].toNat ≤ 122) ∨ (48 ≤ s[k].toNat ∧ s[k].toNat ≤ 57) ∨ s[k].toNat = 46 ∨ s[k].toNat = 45 ∨ s[k].toNat = 95) → ans = false from fun hb => by
        rw [← HANS.out, List.all_eq_false]
        have hkl : k < s.data.toList.length := by omega
        refine ⟨_, List.getElem_mem hkl, ?_⟩
        have := hok.trans (decide_eq_false hb)
        simp only [List.getD, List.getElem?_eq_getElem hkl, Option.getD_some] at this
        rw [this]; simp)
      clear hok hall hlen hbk
      go_wp2_with fail
      all_goals (try simp only [bne_iff_ne, ne_eq, bne_eq_false_iff_eq] at *)
      all_goals first
        | (go_ret; exact ⟨by rw [HNO.out (by omega)]; rfl, rfl⟩)
        | exact ⟨⟨k + 1, by omega, by go_num, trivial, all_step HALL.out (HYES.out (by omega))⟩, by simp [intOf]; omega⟩
        | (go_roundw <;> first | exact ⟨k + 1, by omega, by go_num, rfl, all_step HALL.out (HYES.out (by omega))⟩ | (simp [intOf]; omega))
    · have hkI : ¬ (k : Int) < s.size := by omega
      have HO := hid (show ans = true from by
        rw [← HANS.out, List.all_eq_true]
        intro c hc
        obtain ⟨j, hj, rfl⟩ := List.getElem_of_mem hc
        have := hall j (by omega)
        simp only [List.getD, List.getElem?_eq_getElem hj, Option.getD_some] at this
        exact this)
      clear hall hlen
      go_wp2_with fail
      go_ret
      exact ⟨by rw [HO.out]; rfl, rfl⟩
end Go.Proofs.YtlhbgobjhddhlaaGreatDoor
