/- inglenooksee.Is: an error of api's is the one of its number. -/
import Derived.Test.YteadegaclnibhaaDoorSeeSent
import Derived.Test.YteadegaclnibhaaDoorVOwnErr
namespace Go.Proofs.YteadegaclnibhaaDoor
open Go.RowKit

/-- Api's errors: they lie in their variables, each in a block of its own, no two the same. -/
structure Sent17 (w : World) (pa : Nat → Addr) : Prop where
  s : Sents w pa
  r : ∀ i, i < 17 → Rowed w (pa i)
  n : ∀ i j, i < 17 → j < 17 → i ≠ j → pa i ≠ pa j
theorem Sent17.frame {w w' : World} {pa : Nat → Addr} (h : Sent17 w pa) (hf : Fr (fun _ => False) w w') : Sent17 w' pa := ⟨h.s.frame hf, fun i hi => (h.r i hi).frame hf, h.n⟩

theorem sent_get (pa : Nat → Addr) (k : Nat) (hk : k < 17) : (#[.iface 71 (.pointer (some (pa 0))), .iface 71 (.pointer (some (pa 1))), .iface 71 (.pointer (some (pa 2))), .iface 71 (.pointer (some (pa 3))), .iface 71 (.pointer (some (pa 4))), .iface 71 (.pointer (some (pa 5))), .iface 71 (.pointer (some (pa 6))), .iface 71 (.pointer (some (pa 7))), .iface 71 (.pointer (some (pa 8))), .iface 71 (.pointer (some (pa 9))), .iface 71 (.pointer (some (pa 10))), .iface 71 (.pointer (some (pa 11))), .iface 71 (.pointer (some (pa 12))), .iface 71 (.pointer (some (pa 13))), .iface 71 (.pointer (some (pa 14))), .iface 71 (.pointer (some (pa 15))), .iface 71 (.pointer (some (pa 16)))] : Array Value)[k]? = some (.iface 71 (.pointer (some (pa k)))) := by
  obtain rfl | rfl | rfl | rfl | rfl | rfl | rfl | rfl | rfl | rfl | rfl | rfl | rfl | rfl | rfl | rfl | rfl : k = 0 ∨ k = 1 ∨ k = 2 ∨ k = 3 ∨ k = 4 ∨ k = 5 ∨ k = 6 ∨ k = 7 ∨ k = 8 ∨ k = 9 ∨ k = 10 ∨ k = 11 ∨ k = 12 ∨ k = 13 ∨ k = 14 ∨ k = 15 ∨ k = 16 := by omega
  all_goals rfl

set_option maxHeartbeats 1600000 in
theorem sentinel_any (w : World) (pa : Nat → Addr) (h : Sent17 w pa) (j : Nat) (hj : j < 17) : Calls Tryd.prog 37 #[.iface 71 (.pointer (some (pa j)))] w fun e w' => e = .returned (.int .i64 (101 + j)) ∧ Fr (fun _ => False) w w' := by
  have hs := sentinels_any w pa h.s
  have HS := hid hs; have HH := hid h
  clear hs h
  go_enter Tryd.func37, Tryd.ntmps37
  go_wp2_with fail
  refine HS.out.mono ?_
  rintro e w' ⟨rfl, rfl⟩
  have hb := heap_alloc_new w (.cells #[.iface 71 (.pointer (some (pa 0))), .iface 71 (.pointer (some (pa 1))), .iface 71 (.pointer (some (pa 2))), .iface 71 (.pointer (some (pa 3))), .iface 71 (.pointer (some (pa 4))), .iface 71 (.pointer (some (pa 5))), .iface 71 (.pointer (some (pa 6))), .iface 71 (.pointer (some (pa 7))), .iface 71 (.pointer (some (pa 8))), .iface 71 (.pointer (some (pa 9))), .iface 71 (.pointer (some (pa 10))), .iface 71 (.pointer (some (pa 11))), .iface 71 (.pointer (some (pa 12))), .iface 71 (.pointer (some (pa 13))), .iface 71 (.pointer (some (pa 14))), .iface 71 (.pointer (some (pa 15))), .iface 71 (.pointer (some (pa 16)))] 28)
  have hF := (Fr.refl (fun _ => False) w).alloc (.cells #[.iface 71 (.pointer (some (pa 0))), .iface 71 (.pointer (some (pa 1))), .iface 71 (.pointer (some (pa 2))), .iface 71 (.pointer (some (pa 3))), .iface 71 (.pointer (some (pa 4))), .iface 71 (.pointer (some (pa 5))), .iface 71 (.pointer (some (pa 6))), .iface 71 (.pointer (some (pa 7))), .iface 71 (.pointer (some (pa 8))), .iface 71 (.pointer (some (pa 9))), .iface 71 (.pointer (some (pa 10))), .iface 71 (.pointer (some (pa 11))), .iface 71 (.pointer (some (pa 12))), .iface 71 (.pointer (some (pa 13))), .iface 71 (.pointer (some (pa 14))), .iface 71 (.pointer (some (pa 15))), .iface 71 (.pointer (some (pa 16)))] 28)
  generalize w.alloc (.cells #[.iface 71 (.pointer (some (pa 0))), .iface 71 (.pointer (some (pa 1))), .iface 71 (.pointer (some (pa 2))), .iface 71 (.pointer (some (pa 3))), .iface 71 (.pointer (some (pa 4))), .iface 71 (.pointer (some (pa 5))), .iface 71 (.pointer (some (pa 6))), .iface 71 (.pointer (some (pa 7))), .iface 71 (.pointer (some (pa 8))), .iface 71 (.pointer (some (pa 9))), .iface 71 (.pointer (some (pa 10))), .iface 71 (.pointer (some (pa 11))), .iface 71 (.pointer (some (pa 12))), .iface 71 (.pointer (some (pa 13))), .iface 71 (.pointer (some (pa 14))), .iface 71 (.pointer (some (pa 15))), .iface 71 (.pointer (some (pa 16)))] 28) = W at *
  have H2 := HH.out.frame hF
  have hg := sent_get pa
  have hce := fun k (hk : k < 17) => (cell_of_row W w.heap.size k _ _ _ hb).trans (hg k hk)
  have HC := hid hce; have HF := hid hF; have H2 := hid H2
  clear hb hF hg hce HS HH
  go_wp2_with fail
  go_loopw [4] (fun i wr => ∃ k : Nat, k ≤ j ∧ i = .int .i64 k ∧ W = wr) (fun i _ => 17 - (intOf i).toNat)
  case atStart => exact ⟨0, Nat.zero_le _, rfl, rfl⟩
  case round =>
    obtain ⟨k, hk, rfl, rfl⟩ := hrel
    have hk17 : k < 17 := by omega
    have hc := HC.out k hk17
    by_cases hkj : k = j
    · subst hkj
      have ha := alike_same (pa k) W
      have HA := hid ha
      clear ha
      go_wp2_with fail
      refine HA.out.mono ?_
      rintro e w' ⟨rfl, rfl⟩
      go_wp2
      go_ret
      exact ⟨rfl, HF.out⟩
    · have ha := alike_other (w := W) (H2.out.n j k hj hk17 (Ne.symm hkj)) (H2.out.r j hj) (H2.out.r k hk17)
      have HA := hid ha
      clear ha
      go_wp2_with fail
      refine HA.out.mono ?_
      rintro e w' ⟨rfl, rfl⟩
      go_wp2
      go_roundw
      case rel => exact ⟨k + 1, by omega, by go_num, trivial⟩
      case measure => simp [intOf]; omega

theorem assert_raise (a : Addr) (w : World) : (Instr.typeAssert (.iface 71 (.pointer (some a))) 28 63 true).run Tryd.prog w = .ok (.tuple #[.pointer none, .bool false]) w := by kernel_rfl
theorem assert_at (a : Addr) (w : World) : (Instr.typeAssert (.iface 71 (.pointer (some a))) 28 58 true).run Tryd.prog w = .ok (.tuple #[.pointer none, .bool false]) w := by kernel_rfl

set_option maxHeartbeats 1600000 in
theorem inner_any (w : World) (pa : Nat → Addr) (h : Sent17 w pa) (j : Nat) (hj : j < 17) : Calls Tryd.prog 35 #[.iface 71 (.pointer (some (pa j)))] w fun e w' => e = .returned (bareV (101 + j)) ∧ Fr (fun _ => False) w w' := by
  have HH := hid h
  clear h
  have ht := assert_raise (pa j)
  go_enter Tryd.func35, Tryd.ntmps35
  go_wp2_with fail
  have hF := (Fr.refl (fun _ => False) w).alloc (.cells #[.int .i64 0, .bool false, .int .i64 0, .int .i64 0, .int .i64 0, .string ⟨#[]⟩, .slice none 0 0] 48)
  have hrow := heap_alloc_new w (.cells #[.int .i64 0, .bool false, .int .i64 0, .int .i64 0, .int .i64 0, .string ⟨#[]⟩, .slice none 0 0] 48)
  refine (sentinel_any _ pa (HH.out.frame hF) j hj).mono ?_
  rintro e w2 ⟨rfl, hf2⟩
  have HF := hid (hF.trans' hf2); have HR2 := hid (hf2.heap hrow not_false)
  clear hF hf2 hrow ht
  go_wp2_with fail
  refine (bare_any (101 + j) w2).mono ?_
  rintro e w3 ⟨rfl, hf3⟩
  have HF3 := hid (HF.out.trans' hf3); have HRR := hid (hf3.heap HR2.out not_false)
  clear hf3
  unfold bareV
  have hR := HRR.out
  have x0 : w3.cell? ⟨w.heap.size, 0, none⟩ = some (.int .i64 0) := by rw [cell_of_row _ _ 0 _ _ _ hR]; rfl
  have x1 : w3.cell? ⟨w.heap.size, 1, none⟩ = some (.bool false) := by rw [cell_of_row _ _ 1 _ _ _ hR]; rfl
  have x2 : w3.cell? ⟨w.heap.size, 2, none⟩ = some (.int .i64 0) := by rw [cell_of_row _ _ 2 _ _ _ hR]; rfl
  have x3 : w3.cell? ⟨w.heap.size, 3, none⟩ = some (.int .i64 0) := by rw [cell_of_row _ _ 3 _ _ _ hR]; rfl
  have x4 : w3.cell? ⟨w.heap.size, 4, none⟩ = some (.int .i64 0) := by rw [cell_of_row _ _ 4 _ _ _ hR]; rfl
  have x5 : w3.cell? ⟨w.heap.size, 5, none⟩ = some (.string ⟨#[]⟩) := by rw [cell_of_row _ _ 5 _ _ _ hR]; rfl
  have x6 : w3.cell? ⟨w.heap.size, 6, none⟩ = some (.slice none 0 0) := by rw [cell_of_row _ _ 6 _ _ _ hR]; rfl
  have fz : ∀ i, w3.frozen? ⟨w.heap.size, i, none⟩ = false := fun i => frozen_of_row _ _ i _ _ hR
  clear hR
  go_wp2_with fail
  have hR2 := (setCell_row 6 (.slice none 0 0) (setCell_row 5 (.string ⟨#[]⟩) (setCell_row 4 (.int .i64 0) (setCell_row 3 (.int .i64 0) (setCell_row 2 (.int .i64 0) (setCell_row 1 (.bool false) (setCell_row 0 (.int .i64 (101 + j)) HRR.out)))))))
  simp only [List.setIfInBounds_toArray, List.set_cons_zero, List.set_cons_succ] at hR2
  have hf8 : Fr (fun q => q = w.heap.size) w3 (((((((w3.setCell ⟨w.heap.size, 0, none⟩ (.int .i64 (101 + j))).setCell ⟨w.heap.size, 1, none⟩ (.bool false)).setCell ⟨w.heap.size, 2, none⟩ (.int .i64 0)).setCell ⟨w.heap.size, 3, none⟩ (.int .i64 0)).setCell ⟨w.heap.size, 4, none⟩ (.int .i64 0)).setCell ⟨w.heap.size, 5, none⟩ (.string ⟨#[]⟩)).setCell ⟨w.heap.size, 6, none⟩ (.slice none 0 0)) := ((((((((Fr.refl (fun q => q = w.heap.size) w3).setCell (p := ⟨w.heap.size, 0, none⟩) (.inl rfl) (.int .i64 (101 + j))).setCell (p := ⟨w.heap.size, 1, none⟩) (.inl rfl) (.bool false)).setCell (p := ⟨w.heap.size, 2, none⟩) (.inl rfl) (.int .i64 0)).setCell (p := ⟨w.heap.size, 3, none⟩) (.inl rfl) (.int .i64 0)).setCell (p := ⟨w.heap.size, 4, none⟩) (.inl rfl) (.int .i64 0)).setCell (p := ⟨w.heap.size, 5, none⟩) (.inl rfl) (.string ⟨#[]⟩)).setCell (p := ⟨w.heap.size, 6, none⟩) (.inl rfl) (.slice none 0 0))
  refine bodyPost_ret (results_cell_row rfl _ _ w.heap.size _ _ _ _ rfl hR2 Tryd.underlying48 rfl (by kernel_rfl)) rfl ?_
  exact ⟨rfl, HF3.out.trans hf8 (fun _ _ => id) (fun q hq e => by omega)⟩

set_option maxHeartbeats 1600000 in
theorem fault_any (w : World) (pa : Nat → Addr) (h : Sent17 w pa) (j : Nat) (hj : j < 17) : Calls Tryd.prog 31 #[.iface 71 (.pointer (some (pa j)))] w fun e w' => e = .returned (bareV (101 + j)) ∧ Fr (fun _ => False) w w' := by
  have HH := hid h
  clear h
  have ht := assert_at (pa j)
  go_enter Tryd.func31, Tryd.ntmps31
  go_wp2_with fail
  have hF := (Fr.refl (fun _ => False) w).alloc (.cells #[.int .i64 0, .bool false, .int .i64 0, .int .i64 0, .int .i64 0, .string ⟨#[]⟩, .slice none 0 0] 48)
  have hrow := heap_alloc_new w (.cells #[.int .i64 0, .bool false, .int .i64 0, .int .i64 0, .int .i64 0, .string ⟨#[]⟩, .slice none 0 0] 48)
  refine (inner_any _ pa (HH.out.frame hF) j hj).mono ?_
  rintro e w3 ⟨rfl, hf3⟩
  have HF3 := hid (hF.trans' hf3); have HRR := hid (hf3.heap hrow not_false)
  clear hF hf3 hrow ht
  unfold bareV
  have hR := HRR.out
  have x0 : w3.cell? ⟨w.heap.size, 0, none⟩ = some (.int .i64 0) := by rw [cell_of_row _ _ 0 _ _ _ hR]; rfl
  have x1 : w3.cell? ⟨w.heap.size, 1, none⟩ = some (.bool false) := by rw [cell_of_row _ _ 1 _ _ _ hR]; rfl
  have x2 : w3.cell? ⟨w.heap.size, 2, none⟩ = some (.int .i64 0) := by rw [cell_of_row _ _ 2 _ _ _ hR]; rfl
  have x3 : w3.cell? ⟨w.heap.size, 3, none⟩ = some (.int .i64 0) := by rw [cell_of_row _ _ 3 _ _ _ hR]; rfl
  have x4 : w3.cell? ⟨w.heap.size, 4, none⟩ = some (.int .i64 0) := by rw [cell_of_row _ _ 4 _ _ _ hR]; rfl
  have x5 : w3.cell? ⟨w.heap.size, 5, none⟩ = some (.string ⟨#[]⟩) := by rw [cell_of_row _ _ 5 _ _ _ hR]; rfl
  have x6 : w3.cell? ⟨w.heap.size, 6, none⟩ = some (.slice none 0 0) := by rw [cell_of_row _ _ 6 _ _ _ hR]; rfl
  have fz : ∀ i, w3.frozen? ⟨w.heap.size, i, none⟩ = false := fun i => frozen_of_row _ _ i _ _ hR
  clear hR
  go_wp2_with fail
  have hR2 := (setCell_row 6 (.slice none 0 0) (setCell_row 5 (.string ⟨#[]⟩) (setCell_row 4 (.int .i64 0) (setCell_row 3 (.int .i64 0) (setCell_row 2 (.int .i64 0) (setCell_row 1 (.bool false) (setCell_row 0 (.int .i64 (101 + j)) HRR.out)))))))
  simp only [List.setIfInBounds_toArray, List.set_cons_zero, List.set_cons_succ] at hR2
  have hf8 : Fr (fun q => q = w.heap.size) w3 (((((((w3.setCell ⟨w.heap.size, 0, none⟩ (.int .i64 (101 + j))).setCell ⟨w.heap.size, 1, none⟩ (.bool false)).setCell ⟨w.heap.size, 2, none⟩ (.int .i64 0)).setCell ⟨w.heap.size, 3, none⟩ (.int .i64 0)).setCell ⟨w.heap.size, 4, none⟩ (.int .i64 0)).setCell ⟨w.heap.size, 5, none⟩ (.string ⟨#[]⟩)).setCell ⟨w.heap.size, 6, none⟩ (.slice none 0 0)) := ((((((((Fr.refl (fun q => q = w.heap.size) w3).setCell (p := ⟨w.heap.size, 0, none⟩) (.inl rfl) (.int .i64 (101 + j))).setCell (p := ⟨w.heap.size, 1, none⟩) (.inl rfl) (.bool false)).setCell (p := ⟨w.heap.size, 2, none⟩) (.inl rfl) (.int .i64 0)).setCell (p := ⟨w.heap.size, 3, none⟩) (.inl rfl) (.int .i64 0)).setCell (p := ⟨w.heap.size, 4, none⟩) (.inl rfl) (.int .i64 0)).setCell (p := ⟨w.heap.size, 5, none⟩) (.inl rfl) (.string ⟨#[]⟩)).setCell (p := ⟨w.heap.size, 6, none⟩) (.inl rfl) (.slice none 0 0))
  refine bodyPost_ret (results_cell_row rfl _ _ w.heap.size _ _ _ _ rfl hR2 Tryd.underlying48 rfl (by kernel_rfl)) rfl ?_
  exact ⟨rfl, HF3.out.trans hf8 (fun _ _ => id) (fun q hq e => by omega)⟩

set_option maxHeartbeats 1600000 in
theorem fault_nil (w : World) : Calls Tryd.prog 31 #[.nilIface] w fun e w' => e = .returned (bareV 0) ∧ Fr (fun _ => False) w w' := by
  go_enter Tryd.func31, Tryd.ntmps31
  go_wp2_with fail
  have hF := (Fr.refl (fun _ => False) w).alloc (.cells #[.int .i64 0, .bool false, .int .i64 0, .int .i64 0, .int .i64 0, .string ⟨#[]⟩, .slice none 0 0] 48)
  have hrow := heap_alloc_new w (.cells #[.int .i64 0, .bool false, .int .i64 0, .int .i64 0, .int .i64 0, .string ⟨#[]⟩, .slice none 0 0] 48)
  refine (none_any _).mono ?_
  rintro e w3 ⟨rfl, hf3⟩
  have HF3 := hid (hF.trans' hf3); have HRR := hid (hf3.heap hrow not_false)
  clear hF hf3 hrow
  unfold bareV
  have hR := HRR.out
  have x0 : w3.cell? ⟨w.heap.size, 0, none⟩ = some (.int .i64 0) := by rw [cell_of_row _ _ 0 _ _ _ hR]; rfl
  have x1 : w3.cell? ⟨w.heap.size, 1, none⟩ = some (.bool false) := by rw [cell_of_row _ _ 1 _ _ _ hR]; rfl
  have x2 : w3.cell? ⟨w.heap.size, 2, none⟩ = some (.int .i64 0) := by rw [cell_of_row _ _ 2 _ _ _ hR]; rfl
  have x3 : w3.cell? ⟨w.heap.size, 3, none⟩ = some (.int .i64 0) := by rw [cell_of_row _ _ 3 _ _ _ hR]; rfl
  have x4 : w3.cell? ⟨w.heap.size, 4, none⟩ = some (.int .i64 0) := by rw [cell_of_row _ _ 4 _ _ _ hR]; rfl
  have x5 : w3.cell? ⟨w.heap.size, 5, none⟩ = some (.string ⟨#[]⟩) := by rw [cell_of_row _ _ 5 _ _ _ hR]; rfl
  have x6 : w3.cell? ⟨w.heap.size, 6, none⟩ = some (.slice none 0 0) := by rw [cell_of_row _ _ 6 _ _ _ hR]; rfl
  have fz : ∀ i, w3.frozen? ⟨w.heap.size, i, none⟩ = false := fun i => frozen_of_row _ _ i _ _ hR
  clear hR
  go_wp2_with fail
  have hR2 := (setCell_row 6 (.slice none 0 0) (setCell_row 5 (.string ⟨#[]⟩) (setCell_row 4 (.int .i64 0) (setCell_row 3 (.int .i64 0) (setCell_row 2 (.int .i64 0) (setCell_row 1 (.bool false) (setCell_row 0 (.int .i64 0) HRR.out)))))))
  simp only [List.setIfInBounds_toArray, List.set_cons_zero, List.set_cons_succ] at hR2
  have hf8 : Fr (fun q => q = w.heap.size) w3 (((((((w3.setCell ⟨w.heap.size, 0, none⟩ (.int .i64 0)).setCell ⟨w.heap.size, 1, none⟩ (.bool false)).setCell ⟨w.heap.size, 2, none⟩ (.int .i64 0)).setCell ⟨w.heap.size, 3, none⟩ (.int .i64 0)).setCell ⟨w.heap.size, 4, none⟩ (.int .i64 0)).setCell ⟨w.heap.size, 5, none⟩ (.string ⟨#[]⟩)).setCell ⟨w.heap.size, 6, none⟩ (.slice none 0 0)) := ((((((((Fr.refl (fun q => q = w.heap.size) w3).setCell (p := ⟨w.heap.size, 0, none⟩) (.inl rfl) (.int .i64 0)).setCell (p := ⟨w.heap.size, 1, none⟩) (.inl rfl) (.bool false)).setCell (p := ⟨w.heap.size, 2, none⟩) (.inl rfl) (.int .i64 0)).setCell (p := ⟨w.heap.size, 3, none⟩) (.inl rfl) (.int .i64 0)).setCell (p := ⟨w.heap.size, 4, none⟩) (.inl rfl) (.int .i64 0)).setCell (p := ⟨w.heap.size, 5, none⟩) (.inl rfl) (.string ⟨#[]⟩)).setCell (p := ⟨w.heap.size, 6, none⟩) (.inl rfl) (.slice none 0 0))
  refine bodyPost_ret (results_cell_row rfl _ _ w.heap.size _ _ _ _ rfl hR2 Tryd.underlying48 rfl (by kernel_rfl)) rfl ?_
  exact ⟨rfl, HF3.out.trans hf8 (fun _ _ => id) (fun q hq e => by omega)⟩
end Go.Proofs.YteadegaclnibhaaDoor
