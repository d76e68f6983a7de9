/- inglenooksee: which of api's errors one is; Is, exact. For seats that hold no val. -/
import Derived.Test.YtlhbgobjhddhlaaGreatDoorSee0
import Derived.LaidEql
namespace Go.Proofs.YtlhbgobjhddhlaaGreatDoor
open Go.RowKit

/-- The variables of api's errors, in the order in which they are asked. -/
def sentG : List Nat := [6, 7, 8, 9, 0, 1, 5, 2, 3, 4, 10, 11, 12, 13, 14, 15, 16]
/-- The errors lie in their variables. -/
def Sents (w : World) (pa : Nat → Addr) : Prop := ∀ i, i < 17 → w.cell? ⟨sentG.getD i 0, 0, none⟩ = some (.iface 167 (.pointer (some (pa i))))
theorem Sents.frame {w w' : World} {pa : Nat → Addr} (h : Sents w pa) (hf : Fr (fun _ => False) w w') : Sents w' pa := fun i hi => hf.cell (h i hi) not_false

set_option maxHeartbeats 1600000 in
theorem sentinels_any (w : World) (pa : Nat → Addr) (h : Sents w pa) : Calls Tryz.prog 100 #[] w fun e w' => e = .returned (.slice (some ⟨w.heap.size, 0, none⟩) 17 17) ∧ w' = w.alloc (.cells #[.iface 167 (.pointer (some (pa 0))), .iface 167 (.pointer (some (pa 1))), .iface 167 (.pointer (some (pa 2))), .iface 167 (.pointer (some (pa 3))), .iface 167 (.pointer (some (pa 4))), .iface 167 (.pointer (some (pa 5))), .iface 167 (.pointer (some (pa 6))), .iface 167 (.pointer (some (pa 7))), .iface 167 (.pointer (some (pa 8))), .iface 167 (.pointer (some (pa 9))), .iface 167 (.pointer (some (pa 10))), .iface 167 (.pointer (some (pa 11))), .iface 167 (.pointer (some (pa 12))), .iface 167 (.pointer (some (pa 13))), .iface 167 (.pointer (some (pa 14))), .iface 167 (.pointer (some (pa 15))), .iface 167 (.pointer (some (pa 16)))] 26) := by
  have g0 : w.cell? ⟨6, 0, none⟩ = some (.iface 167 (.pointer (some (pa 0)))) := h 0 (by decide)
  have g1 : w.cell? ⟨7, 0, none⟩ = some (.iface 167 (.pointer (some (pa 1)))) := h 1 (by decide)
  have g2 : w.cell? ⟨8, 0, none⟩ = some (.iface 167 (.pointer (some (pa 2)))) := h 2 (by decide)
  have g3 : w.cell? ⟨9, 0, none⟩ = some (.iface 167 (.pointer (some (pa 3)))) := h 3 (by decide)
  have g4 : w.cell? ⟨0, 0, none⟩ = some (.iface 167 (.pointer (some (pa 4)))) := h 4 (by decide)
  have g5 : w.cell? ⟨1, 0, none⟩ = some (.iface 167 (.pointer (some (pa 5)))) := h 5 (by decide)
  have g6 : w.cell? ⟨5, 0, none⟩ = some (.iface 167 (.pointer (some (pa 6)))) := h 6 (by decide)
  have g7 : w.cell? ⟨2, 0, none⟩ = some (.iface 167 (.pointer (some (pa 7)))) := h 7 (by decide)
  have g8 : w.cell? ⟨3, 0, none⟩ = some (.iface 167 (.pointer (some (pa 8)))) := h 8 (by decide)
  have g9 : w.cell? ⟨4, 0, none⟩ = some (.iface 167 (.pointer (some (pa 9)))) := h 9 (by decide)
  have g10 : w.cell? ⟨10, 0, none⟩ = some (.iface 167 (.pointer (some (pa 10)))) := h 10 (by decide)
  have g11 : w.cell? ⟨11, 0, none⟩ = some (.iface 167 (.pointer (some (pa 11)))) := h 11 (by decide)
  have g12 : w.cell? ⟨12, 0, none⟩ = some (.iface 167 (.pointer (some (pa 12)))) := h 12 (by decide)
  have g13 : w.cell? ⟨13, 0, none⟩ = some (.iface 167 (.pointer (some (pa 13)))) := h 13 (by decide)
  have g14 : w.cell? ⟨14, 0, none⟩ = some (.iface 167 (.pointer (some (pa 14)))) := h 14 (by decide)
  have g15 : w.cell? ⟨15, 0, none⟩ = some (.iface 167 (.pointer (some (pa 15)))) := h 15 (by decide)
  have g16 : w.cell? ⟨16, 0, none⟩ = some (.iface 167 (.pointer (some (pa 16)))) := h 16 (by decide)
  clear h
  generalize pa 0 = a0 at *
  generalize pa 1 = a1 at *
  generalize pa 2 = a2 at *
  generalize pa 3 = a3 at *
  generalize pa 4 = a4 at *
  generalize pa 5 = a5 at *
  generalize pa 6 = a6 at *
  generalize pa 7 = a7 at *
  generalize pa 8 = a8 at *
  generalize pa 9 = a9 at *
  generalize pa 10 = a10 at *
  generalize pa 11 = a11 at *
  generalize pa 12 = a12 at *
  generalize pa 13 = a13 at *
  generalize pa 14 = a14 at *
  generalize pa 15 = a15 at *
  generalize pa 16 = a16 at *
  go_enter Tryz.func100, Tryz.ntmps100
  go_wp2_with fail
  go_ret
  exact ⟨rfl, rfl⟩

/-- Where an error lies. -/
def Rowed (w : World) (a : Addr) : Prop := ∃ c t, w.heap[a.block]? = some (.cells c t)
theorem Rowed.frame {w w' : World} {a : Addr} (h : Rowed w a) (hf : Fr (fun _ => False) w w') : Rowed w' a := by
  obtain ⟨c, t, h⟩ := h
  exact ⟨c, t, hf.heap h not_false⟩

theorem eql_same (a : Addr) (w : World) : (binOp .eql 26 (.iface 167 (.pointer (some a))) (.iface 167 (.pointer (some a)))).run Tryz.prog w = .ok (.bool true) w := by
  obtain ⟨i, hi, hc⟩ : ∃ i, Tryz.prog.info? 167 = some i ∧ i.comparable = true := by
    have h : (Tryz.prog.info? 167).map (·.comparable) = some true := by kernel_rfl
    cases hh : Tryz.prog.info? 167 with
    | none => rw [hh] at h; cases h
    | some i => rw [hh] at h; exact ⟨i, rfl, by simpa using h⟩
  obtain ⟨j, hj⟩ : ∃ j, Tryz.prog.info? 183 = some j := by
    have h : (Tryz.prog.info? 183).isSome = true := by kernel_rfl
    exact Option.isSome_iff_exists.1 h
  exact run_eql_iface_ptr_same w a Tryz.underlying26 Tryz.underlying167 hi hc hj
theorem eql_other {a b : Addr} {w : World} (hne : a ≠ b) (ha : Rowed w a) (hb : Rowed w b) : (binOp .eql 26 (.iface 167 (.pointer (some a))) (.iface 167 (.pointer (some b)))).run Tryz.prog w = .ok (.bool false) w := by
  obtain ⟨i, hi, hc⟩ : ∃ i, Tryz.prog.info? 167 = some i ∧ i.comparable = true := by
    have h : (Tryz.prog.info? 167).map (·.comparable) = some true := by kernel_rfl
    cases hh : Tryz.prog.info? 167 with
    | none => rw [hh] at h; cases h
    | some i => rw [hh] at h; exact ⟨i, rfl, by simpa using h⟩
  obtain ⟨j, hj, hs⟩ : ∃ j, Tryz.prog.info? 183 = some j ∧ j.size ≠ 0 := by
    have h : (Tryz.prog.info? 183).map (fun j => j.size != 0) = some true := by kernel_rfl
    cases hh : Tryz.prog.info? 183 with
    | none => rw [hh] at h; cases h
    | some i => rw [hh] at h; exact ⟨i, rfl, by simpa using h⟩
  obtain ⟨ca, ta, ha⟩ := ha
  obtain ⟨cb, tb, hb⟩ := hb
  exact run_eql_iface_ptr_other w Tryz.underlying26 Tryz.underlying167 hi hc hj hs hne ha hb

theorem alike_same (a : Addr) (w : World) : Calls Tryz.prog 101 #[.iface 167 (.pointer (some a)), .iface 167 (.pointer (some a))] w fun e w' => e = .returned (.bool true) ∧ w = w' := by
  have h := eql_same a
  go_enter Tryz.func101, Tryz.ntmps101
  go_wp2
  go_ret
  exact ⟨rfl, rfl⟩
theorem alike_other {a b : Addr} {w : World} (hne : a ≠ b) (ha : Rowed w a) (hb : Rowed w b) : Calls Tryz.prog 101 #[.iface 167 (.pointer (some a)), .iface 167 (.pointer (some b))] w fun e w' => e = .returned (.bool false) ∧ w = w' := by
  have h := eql_other hne ha hb
  clear hne ha hb
  go_enter Tryz.func101, Tryz.ntmps101
  go_wp2
  go_ret
  exact ⟨rfl, rfl⟩
/-- Api's errors: they lie in their variables, each in a block of its own, no two the same. -/
structure Sent17 (w : World) (pa : Nat → Addr) : Prop where
  s : Sents w pa
  r : ∀ i, i < 17 → Rowed w (pa i)
  n : ∀ i j, i < 17 → j < 17 → i ≠ j → pa i ≠ pa j
theorem Sent17.frame {w w' : World} {pa : Nat → Addr} (h : Sent17 w pa) (hf : Fr (fun _ => False) w w') : Sent17 w' pa := ⟨h.s.frame hf, fun i hi => (h.r i hi).frame hf, h.n⟩

theorem sent_get (pa : Nat → Addr) (k : Nat) (hk : k < 17) : (#[.iface 167 (.pointer (some (pa 0))), .iface 167 (.pointer (some (pa 1))), .iface 167 (.pointer (some (pa 2))), .iface 167 (.pointer (some (pa 3))), .iface 167 (.pointer (some (pa 4))), .iface 167 (.pointer (some (pa 5))), .iface 167 (.pointer (some (pa 6))), .iface 167 (.pointer (some (pa 7))), .iface 167 (.pointer (some (pa 8))), .iface 167 (.pointer (some (pa 9))), .iface 167 (.pointer (some (pa 10))), .iface 167 (.pointer (some (pa 11))), .iface 167 (.pointer (some (pa 12))), .iface 167 (.pointer (some (pa 13))), .iface 167 (.pointer (some (pa 14))), .iface 167 (.pointer (some (pa 15))), .iface 167 (.pointer (some (pa 16)))] : Array Value)[k]? = some (.iface 167 (.pointer (some (pa k)))) := by
  obtain rfl | rfl | rfl | rfl | rfl | rfl | rfl | rfl | rfl | rfl | rfl | rfl | rfl | rfl | rfl | rfl | rfl : k = 0 ∨ k = 1 ∨ k = 2 ∨ k = 3 ∨ k = 4 ∨ k = 5 ∨ k = 6 ∨ k = 7 ∨ k = 8 ∨ k = 9 ∨ k = 10 ∨ k = 11 ∨ k = 12 ∨ k = 13 ∨ k = 14 ∨ k = 15 ∨ k = 16 := by omega
  all_goals rfl

set_option maxHeartbeats 1600000 in
theorem sentinel_any (w : World) (pa : Nat → Addr) (h : Sent17 w pa) (j : Nat) (hj : j < 17) : Calls Tryz.prog 92 #[.iface 167 (.pointer (some (pa j)))] w fun e w' => e = .returned (.int .i64 (101 + j)) ∧ Fr (fun _ => False) w w' := by
  have hs := sentinels_any w pa h.s
  have HS := hid hs; have HH := hid h
  clear hs h
  go_enter Tryz.func92, Tryz.ntmps92
  go_wp2_with fail
  refine HS.out.mono ?_
  rintro e w' ⟨rfl, rfl⟩
  have hb := heap_alloc_new w (.cells #[.iface 167 (.pointer (some (pa 0))), .iface 167 (.pointer (some (pa 1))), .iface 167 (.pointer (some (pa 2))), .iface 167 (.pointer (some (pa 3))), .iface 167 (.pointer (some (pa 4))), .iface 167 (.pointer (some (pa 5))), .iface 167 (.pointer (some (pa 6))), .iface 167 (.pointer (some (pa 7))), .iface 167 (.pointer (some (pa 8))), .iface 167 (.pointer (some (pa 9))), .iface 167 (.pointer (some (pa 10))), .iface 167 (.pointer (some (pa 11))), .iface 167 (.pointer (some (pa 12))), .iface 167 (.pointer (some (pa 13))), .iface 167 (.pointer (some (pa 14))), .iface 167 (.pointer (some (pa 15))), .iface 167 (.pointer (some (pa 16)))] 26)
  have hF := (Fr.refl (fun _ => False) w).alloc (.cells #[.iface 167 (.pointer (some (pa 0))), .iface 167 (.pointer (some (pa 1))), .iface 167 (.pointer (some (pa 2))), .iface 167 (.pointer (some (pa 3))), .iface 167 (.pointer (some (pa 4))), .iface 167 (.pointer (some (pa 5))), .iface 167 (.pointer (some (pa 6))), .iface 167 (.pointer (some (pa 7))), .iface 167 (.pointer (some (pa 8))), .iface 167 (.pointer (some (pa 9))), .iface 167 (.pointer (some (pa 10))), .iface 167 (.pointer (some (pa 11))), .iface 167 (.pointer (some (pa 12))), .iface 167 (.pointer (some (pa 13))), .iface 167 (.pointer (some (pa 14))), .iface 167 (.pointer (some (pa 15))), .iface 167 (.pointer (some (pa 16)))] 26)
  generalize w.alloc (.cells #[.iface 167 (.pointer (some (pa 0))), .iface 167 (.pointer (some (pa 1))), .iface 167 (.pointer (some (pa 2))), .iface 167 (.pointer (some (pa 3))), .iface 167 (.pointer (some (pa 4))), .iface 167 (.pointer (some (pa 5))), .iface 167 (.pointer (some (pa 6))), .iface 167 (.pointer (some (pa 7))), .iface 167 (.pointer (some (pa 8))), .iface 167 (.pointer (some (pa 9))), .iface 167 (.pointer (some (pa 10))), .iface 167 (.pointer (some (pa 11))), .iface 167 (.pointer (some (pa 12))), .iface 167 (.pointer (some (pa 13))), .iface 167 (.pointer (some (pa 14))), .iface 167 (.pointer (some (pa 15))), .iface 167 (.pointer (some (pa 16)))] 26) = W at *
  have H2 := HH.out.frame hF
  have hg := sent_get pa
  have hce := fun k (hk : k < 17) => (cell_of_row W w.heap.size k _ _ _ hb).trans (hg k hk)
  have HC := hid hce; have HF := hid hF; have H2 := hid H2
  clear hb hF hg hce HS HH
  go_wp2_with fail
  go_loopw [4] (fun i wr => ∃ k : Nat, k ≤ j ∧ i = .int .i64 k ∧ W = wr) (fun i _ => 17 - (intOf i).toNat)
  case atStart => exact ⟨0, Nat.zero_le _, rfl, rfl⟩
  case round =>
    obtain ⟨k, hk, rfl, rfl⟩ := hrel
    have hk17 : k < 17 := by omega
    have hc := HC.out k hk17
    by_cases hkj : k = j
    · subst hkj
      have ha := alike_same (pa k) W
      have HA := hid ha
      clear ha
      go_wp2_with fail
      refine HA.out.mono ?_
      rintro e w' ⟨rfl, rfl⟩
      go_wp2
      go_ret
      exact ⟨rfl, HF.out⟩
    · have ha := alike_other (w := W) (H2.out.n j k hj hk17 (Ne.symm hkj)) (H2.out.r j hj) (H2.out.r k hk17)
      have HA := hid ha
      clear ha
      go_wp2_with fail
      refine HA.out.mono ?_
      rintro e w' ⟨rfl, rfl⟩
      go_wp2
      go_roundw
      case rel => exact ⟨k + 1, by omega, by go_num, trivial⟩
      case measure => simp [intOf]; omega

theorem assert_raise (a : Addr) (w : World) : (Instr.typeAssert (.iface 167 (.pointer (some a))) 26 140 true).run Tryz.prog w = .ok (.tuple #[.pointer none, .bool false]) w := by kernel_rfl
theorem assert_at (a : Addr) (w : World) : (Instr.typeAssert (.iface 167 (.pointer (some a))) 26 122 true).run Tryz.prog w = .ok (.tuple #[.pointer none, .bool false]) w := by kernel_rfl

set_option maxHeartbeats 1600000 in
theorem inner_any (w : World) (pa : Nat → Addr) (h : Sent17 w pa) (j : Nat) (hj : j < 17) : Calls Tryz.prog 77 #[.iface 167 (.pointer (some (pa j)))] w fun e w' => e = .returned (bareV (101 + j)) ∧ Fr (fun _ => False) w w' := by
  have HH := hid h
  clear h
  have ht := assert_raise (pa j)
  go_enter Tryz.func77, Tryz.ntmps77
  go_wp2_with fail
  have hF := (Fr.refl (fun _ => False) w).alloc (.cells #[.int .i64 0, .bool false, .int .i64 0, .int .i64 0, .int .i64 0, .string ⟨#[]⟩, .slice none 0 0] 73)
  have hrow := heap_alloc_new w (.cells #[.int .i64 0, .bool false, .int .i64 0, .int .i64 0, .int .i64 0, .string ⟨#[]⟩, .slice none 0 0] 73)
  refine (sentinel_any _ pa (HH.out.frame hF) j hj).mono ?_
  rintro e w2 ⟨rfl, hf2⟩
  have HF := hid (hF.trans' hf2); have HR2 := hid (hf2.heap hrow not_false)
  clear hF hf2 hrow ht
  go_wp2_with fail
  refine (bare_any (101 + j) w2).mono ?_
  rintro e w3 ⟨rfl, hf3⟩
  have HF3 := hid (HF.out.trans' hf3); have HRR := hid (hf3.heap HR2.out not_false)
  clear hf3
  unfold bareV
  have hR := HRR.out
  have x0 : w3.cell? ⟨w.heap.size, 0, none⟩ = some (.int .i64 0) := by rw [cell_of_row _ _ 0 _ _ _ hR]; rfl
  have x1 : w3.cell? ⟨w.heap.size, 1, none⟩ = some (.bool false) := by rw [cell_of_row _ _ 1 _ _ _ hR]; rfl
  have x2 : w3.cell? ⟨w.heap.size, 2, none⟩ = some (.int .i64 0) := by rw [cell_of_row _ _ 2 _ _ _ hR]; rfl
  have x3 : w3.cell? ⟨w.heap.size, 3, none⟩ = some (.int .i64 0) := by rw [cell_of_row _ _ 3 _ _ _ hR]; rfl
  have x4 : w3.cell? ⟨w.heap.size, 4, none⟩ = some (.int .i64 0) := by rw [cell_of_row _ _ 4 _ _ _ hR]; rfl
  have x5 : w3.cell? ⟨w.heap.size, 5, none⟩ = some (.string ⟨#[]⟩) := by rw [cell_of_row _ _ 5 _ _ _ hR]; rfl
  have x6 : w3.cell? ⟨w.heap.size, 6, none⟩ = some (.slice none 0 0) := by rw [cell_of_row _ _ 6 _ _ _ hR]; rfl
  have fz : ∀ i, w3.frozen? ⟨w.heap.size, i, none⟩ = false := fun i => frozen_of_row _ _ i _ _ hR
  clear hR
  go_wp2_with fail
  have hR2 := (setCell_row 6 (.slice none 0 0) (setCell_row 5 (.string ⟨#[]⟩) (setCell_row 4 (.int .i64 0) (setCell_row 3 (.int .i64 0) (setCell_row 2 (.int .i64 0) (setCell_row 1 (.bool false) (setCell_row 0 (.int .i64 (101 + j)) HRR.out)))))))
  simp only [List.setIfInBounds_toArray, List.set_cons_zero, List.set_cons_succ] at hR2
  have hf8 : Fr (fun q => q = w.heap.size) w3 (((((((w3.setCell ⟨w.heap.size, 0, none⟩ (.int .i64 (101 + j))).setCell ⟨w.heap.size, 1, none⟩ (.bool false)).setCell ⟨w.heap.size, 2, none⟩ (.int .i64 0)).setCell ⟨w.heap.size, 3, none⟩ (.int .i64 0)).setCell ⟨w.heap.size, 4, none⟩ (.int .i64 0)).setCell ⟨w.heap.size, 5, none⟩ (.string ⟨#[]⟩)).setCell ⟨w.heap.size, 6, none⟩ (.slice none 0 0)) := ((((((((Fr.refl (fun q => q = w.heap.size) w3).setCell (p := ⟨w.heap.size, 0, none⟩) (.inl rfl) (.int .i64 (101 + j))).setCell (p := ⟨w.heap.size, 1, none⟩) (.inl rfl) (.bool false)).setCell (p := ⟨w.heap.size, 2, none⟩) (.inl rfl) (.int .i64 0)).setCell (p := ⟨w.heap.size, 3, none⟩) (.inl rfl) (.int .i64 0)).setCell (p := ⟨w.heap.size, 4, none⟩) (.inl rfl) (.int .i64 0)).setCell (p := ⟨w.heap.size, 5, none⟩) (.inl rfl) (.string ⟨#[]⟩)).setCell (p := ⟨w.heap.size, 6, none⟩) (.inl rfl) (.slice none 0 0))
  refine bodyPost_ret (results_cell_row rfl _ _ w.heap.size _ _ _ _ rfl hR2 Tryz.underlying73 rfl (by kernel_rfl)) rfl ?_
  exact ⟨rfl, HF3.out.trans hf8 (fun _ _ => id) (fun q hq e => by omega)⟩

set_option maxHeartbeats 1600000 in
theorem fault_any (w : World) (pa : Nat → Addr) (h : Sent17 w pa) (j : Nat) (hj : j < 17) : Calls Tryz.prog 67 #[.iface 167 (.pointer (some (pa j)))] w fun e w' => e = .returned (bareV (101 + j)) ∧ Fr (fun _ => False) w w' := by
  have HH := hid h
  clear h
  have ht := assert_at (pa j)
  go_enter Tryz.func67, Tryz.ntmps67
  go_wp2_with fail
  have hF := (Fr.refl (fun _ => False) w).alloc (.cells #[.int .i64 0, .bool false, .int .i64 0, .int .i64 0, .int .i64 0, .string ⟨#[]⟩, .slice none 0 0] 73)
  have hrow := heap_alloc_new w (.cells #[.int .i64 0, .bool false, .int .i64 0, .int .i64 0, .int .i64 0, .string ⟨#[]⟩, .slice none 0 0] 73)
  refine (inner_any _ pa (HH.out.frame hF) j hj).mono ?_
  rintro e w3 ⟨rfl, hf3⟩
  have HF3 := hid (hF.trans' hf3); have HRR := hid (hf3.heap hrow not_false)
  clear hF hf3 hrow ht
  unfold bareV
  have hR := HRR.out
  have x0 : w3.cell? ⟨w.heap.size, 0, none⟩ = some (.int .i64 0) := by rw [cell_of_row _ _ 0 _ _ _ hR]; rfl
  have x1 : w3.cell? ⟨w.heap.size, 1, none⟩ = some (.bool false) := by rw [cell_of_row _ _ 1 _ _ _ hR]; rfl
  have x2 : w3.cell? ⟨w.heap.size, 2, none⟩ = some (.int .i64 0) := by rw [cell_of_row _ _ 2 _ _ _ hR]; rfl
  have x3 : w3.cell? ⟨w.heap.size, 3, none⟩ = some (.int .i64 0) := by rw [cell_of_row _ _ 3 _ _ _ hR]; rfl
  have x4 : w3.cell? ⟨w.heap.size, 4, none⟩ = some (.int .i64 0) := by rw [cell_of_row _ _ 4 _ _ _ hR]; rfl
  have x5 : w3.cell? ⟨w.heap.size, 5, none⟩ = some (.string ⟨#[]⟩) := by rw [cell_of_row _ _ 5 _ _ _ hR]; rfl
  have x6 : w3.cell? ⟨w.heap.size, 6, none⟩ = some (.slice none 0 0) := by rw [cell_of_row _ _ 6 _ _ _ hR]; rfl
  have fz : ∀ i, w3.frozen? ⟨w.heap.size, i, none⟩ = false := fun i => frozen_of_row _ _ i _ _ hR
  clear hR
  go_wp2_with fail
  have hR2 := (setCell_row 6 (.slice none 0 0) (setCell_row 5 (.string ⟨#[]⟩) (setCell_row 4 (.int .i64 0) (setCell_row 3 (.int .i64 0) (setCell_row 2 (.int .i64 0) (setCell_row 1 (.bool false) (setCell_row 0 (.int .i64 (101 + j)) HRR.out)))))))
  simp only [List.setIfInBounds_toArray, List.set_cons_zero, List.set_cons_succ] at hR2
  have hf8 : Fr (fun q => q = w.heap.size) w3 (((((((w3.setCell ⟨w.heap.size, 0, none⟩ (.int .i64 (101 + j))).setCell ⟨w.heap.size, 1, none⟩ (.bool false)).setCell ⟨w.heap.size, 2, none⟩ (.int .i64 0)).setCell ⟨w.heap.size, 3, none⟩ (.int .i64 0)).setCell ⟨w.heap.size, 4, none⟩ (.int .i64 0)).setCell ⟨w.heap.size, 5, none⟩ (.string ⟨#[]⟩)).setCell ⟨w.heap.size, 6, none⟩ (.slice none 0 0)) := ((((((((Fr.refl (fun q => q = w.heap.size) w3).setCell (p := ⟨w.heap.size, 0, none⟩) (.inl rfl) (.int .i64 (101 + j))).setCell (p := ⟨w.heap.size, 1, none⟩) (.inl rfl) (.bool false)).setCell (p := ⟨w.heap.size, 2, none⟩) (.inl rfl) (.int .i64 0)).setCell (p := ⟨w.heap.size, 3, none⟩) (.inl rfl) (.int .i64 0)).setCell (p := ⟨w.heap.size, 4, none⟩) (.inl rfl) (.int .i64 0)).setCell (p := ⟨w.heap.size, 5, none⟩) (.inl rfl) (.string ⟨#[]⟩)).setCell (p := ⟨w.heap.size, 6, none⟩) (.inl rfl) (.slice none 0 0))
  refine bodyPost_ret (results_cell_row rfl _ _ w.heap.size _ _ _ _ rfl hR2 Tryz.underlying73 rfl (by kernel_rfl)) rfl ?_
  exact ⟨rfl, HF3.out.trans hf8 (fun _ _ => id) (fun q hq e => by omega)⟩

set_option maxHeartbeats 1600000 in
theorem fault_nil (w : World) : Calls Tryz.prog 67 #[.nilIface] w fun e w' => e = .returned (bareV 0) ∧ Fr (fun _ => False) w w' := by
  go_enter Tryz.func67, Tryz.ntmps67
  go_wp2_with fail
  have hF := (Fr.refl (fun _ => False) w).alloc (.cells #[.int .i64 0, .bool false, .int .i64 0, .int .i64 0, .int .i64 0, .string ⟨#[]⟩, .slice none 0 0] 73)
  have hrow := heap_alloc_new w (.cells #[.int .i64 0, .bool false, .int .i64 0, .int .i64 0, .int .i64 0, .string ⟨#[]⟩, .slice none 0 0] 73)
  refine (none_any _).mono ?_
  rintro e w3 ⟨rfl, hf3⟩
  have HF3 := hid (hF.trans' hf3); have HRR := hid (hf3.heap hrow not_false)
  clear hF hf3 hrow
  unfold bareV
  have hR := HRR.out
  have x0 : w3.cell? ⟨w.heap.size, 0, none⟩ = some (.int .i64 0) := by rw [cell_of_row _ _ 0 _ _ _ hR]; rfl
  have x1 : w3.cell? ⟨w.heap.size, 1, none⟩ = some (.bool false) := by rw [cell_of_row _ _ 1 _ _ _ hR]; rfl
  have x2 : w3.cell? ⟨w.heap.size, 2, none⟩ = some (.int .i64 0) := by rw [cell_of_row _ _ 2 _ _ _ hR]; rfl
  have x3 : w3.cell? ⟨w.heap.size, 3, none⟩ = some (.int .i64 0) := by rw [cell_of_row _ _ 3 _ _ _ hR]; rfl
  have x4 : w3.cell? ⟨w.heap.size, 4, none⟩ = some (.int .i64 0) := by rw [cell_of_row _ _ 4 _ _ _ hR]; rfl
  have x5 : w3.cell? ⟨w.heap.size, 5, none⟩ = some (.string ⟨#[]⟩) := by rw [cell_of_row _ _ 5 _ _ _ hR]; rfl
  have x6 : w3.cell? ⟨w.heap.size, 6, none⟩ = some (.slice none 0 0) := by rw [cell_of_row _ _ 6 _ _ _ hR]; rfl
  have fz : ∀ i, w3.frozen? ⟨w.heap.size, i, none⟩ = false := fun i => frozen_of_row _ _ i _ _ hR
  clear hR
  go_wp2_with fail
  have hR2 := (setCell_row 6 (.slice none 0 0) (setCell_row 5 (.string ⟨#[]⟩) (setCell_row 4 (.int .i64 0) (setCell_row 3 (.int .i64 0) (setCell_row 2 (.int .i64 0) (setCell_row 1 (.bool false) (setCell_row 0 (.int .i64 0) HRR.out)))))))
  simp only [List.setIfInBounds_toArray, List.set_cons_zero, List.set_cons_succ] at hR2
  have hf8 : Fr (fun q => q = w.heap.size) w3 (((((((w3.setCell ⟨w.heap.size, 0, none⟩ (.int .i64 0)).setCell ⟨w.heap.size, 1, none⟩ (.bool false)).setCell ⟨w.heap.size, 2, none⟩ (.int .i64 0)).setCell ⟨w.heap.size, 3, none⟩ (.int .i64 0)).setCell ⟨w.heap.size, 4, none⟩ (.int .i64 0)).setCell ⟨w.heap.size, 5, none⟩ (.string ⟨#[]⟩)).setCell ⟨w.heap.size, 6, none⟩ (.slice none 0 0)) := ((((((((Fr.refl (fun q => q = w.heap.size) w3).setCell (p := ⟨w.heap.size, 0, none⟩) (.inl rfl) (.int .i64 0)).setCell (p := ⟨w.heap.size, 1, none⟩) (.inl rfl) (.bool false)).setCell (p := ⟨w.heap.size, 2, none⟩) (.inl rfl) (.int .i64 0)).setCell (p := ⟨w.heap.size, 3, none⟩) (.inl rfl) (.int .i64 0)).setCell (p := ⟨w.heap.size, 4, none⟩) (.inl rfl) (.int .i64 0)).setCell (p := ⟨w.heap.size, 5, none⟩) (.inl rfl) (.string ⟨#[]⟩)).setCell (p := ⟨w.heap.size, 6, none⟩) (.inl rfl) (.slice none 0 0))
  refine bodyPost_ret (results_cell_row rfl _ _ w.heap.size _ _ _ _ rfl hR2 Tryz.underlying73 rfl (by kernel_rfl)) rfl ?_
  exact ⟨rfl, HF3.out.trans hf8 (fun _ _ => id) (fun q hq e => by omega)⟩
set_option maxHeartbeats 1600000 in
theorem seesame_num (w : World) (e : Value) (m c : Int) (hf : ∀ w', Fr (fun _ => False) w w' → Calls Tryz.prog 67 #[e] w' fun x w'' => x = .returned (bareV m) ∧ Fr (fun _ => False) w' w'') :
    Calls Tryz.prog 33 #[e, bareV c] w fun x w' => x = .returned (.bool (decide (m = c))) ∧ Fr (fun _ => False) w w' := by
  have HC := hid hf
  clear hf
  have hb := heap_alloc_new w (.cells #[.int .i64 c, .bool false, .int .i64 0, .int .i64 0, .int .i64 0, .string ⟨#[]⟩, .slice none 0 0] 73)
  have hF := (Fr.refl (fun _ => False) w).alloc (.cells #[.int .i64 c, .bool false, .int .i64 0, .int .i64 0, .int .i64 0, .string ⟨#[]⟩, .slice none 0 0] 73)
  have hsf := fun w' => samefault_num m c w'
  have HSF := hid hsf
  clear hsf
  unfold bareV at HC HSF ⊢
  go_enter Tryz.func33, Tryz.ntmps33
  go_upto_region 1 with fail
  generalize w.alloc (.cells #[.int .i64 c, .bool false, .int .i64 0, .int .i64 0, .int .i64 0, .string ⟨#[]⟩, .slice none 0 0] 73) = W at *
  have HF := hid hF
  clear hF
  refine wp_region_cls (fun w' => Fr (fun _ => False) W w') (by kernel_rfl) (by kernel_rfl) (Fr.refl _ _).drew ?_
  (refine q_take ?_ (by kernel_rfl) ?_ ?_; rotate_left; (· intro w' hS; go_simp; try with_reducible rfl); (try simp only [Act.put, List.setIfInBounds_toArray, List.set_cons_zero, List.set_cons_succ]))
  (refine q_call ?_ ?_ (by kernel_rfl) ?_ ?_; rotate_left 2; (· intro w' hS; go_simp; first | with_reducible rfl | (constructor <;> with_reducible rfl)); (refine ⟨_, fun w' hw => (HC.out w' (HF.out.trans' hw)).mono fun _ _ h => ⟨h.1, hw.trans' h.2⟩, ?_⟩); (try simp only [Act.put, List.setIfInBounds_toArray, List.set_cons_zero, List.set_cons_succ]))
  (refine q_load (by kernel_rfl) rfl rfl (fun w' hw => Fr.heap hw hb not_false) (by kernel_rfl) (by kernel_rfl) ?_; (try simp only [Act.put, List.setIfInBounds_toArray, List.set_cons_zero, List.set_cons_succ]))
  (refine q_call ?_ ?_ (by kernel_rfl) ?_ ?_; rotate_left 2; (· intro w' hS; go_simp; first | with_reducible rfl | (constructor <;> with_reducible rfl)); (refine ⟨_, fun w' hw => (HSF.out w').mono fun _ _ h => ⟨h.1, hw.trans' h.2⟩, ?_⟩); (try simp only [Act.put, List.setIfInBounds_toArray, List.set_cons_zero, List.set_cons_succ]))
  (refine q_take ?_ (by kernel_rfl) ?_ ?_; rotate_left; (· intro w' hS; go_simp; try with_reducible rfl); (try simp only [Act.put, List.setIfInBounds_toArray, List.set_cons_zero, List.set_cons_succ]))
  refine q_end (fun W6 hw => ?_)
  have HW := hid (HF.out.trans' hw)
  clear hw
  go_wp2
  go_ret
  exact ⟨rfl, HW.out⟩

set_option maxHeartbeats 1600000 in
theorem seeis_num (w : World) (e : Value) (m c : Int) (hf : ∀ w', Fr (fun _ => False) w w' → Calls Tryz.prog 67 #[e] w' fun x w'' => x = .returned (bareV m) ∧ Fr (fun _ => False) w' w'') :
    Calls Tryz.prog 7 #[e, .int .i64 c] w fun x w' => x = .returned (.bool (decide (m = c))) ∧ Fr (fun _ => False) w w' := by
  have HC := hid hf
  clear hf
  go_enter Tryz.func7, Tryz.ntmps7
  go_wp2_with fail
  refine (bare_any c w).mono ?_
  rintro x w2 ⟨rfl, hf2⟩
  have hs := seesame_num w2 e m c fun w' hw => HC.out w' (hf2.trans' hw)
  have HS := hid hs; have HF2 := hid hf2
  clear hs hf2
  unfold bareV at HS ⊢
  go_wp2_with fail
  refine HS.out.mono ?_
  rintro x w3 ⟨rfl, hf3⟩
  have HF3 := hid (HF2.out.trans' hf3)
  clear hf3
  go_wp2
  go_ret
  exact ⟨rfl, HF3.out⟩


/-- The error of a number: none, or api's. -/
def errV (pa : Nat → Addr) (m : Nat) : Value := if m = 0 then .nilIface else .iface 167 (.pointer (some (pa (m - 101))))
def ErrNo (m : Nat) : Prop := m = 0 ∨ 101 ≤ m ∧ m ≤ 117
theorem is_num (w : World) (pa : Nat → Addr) (h : Sent17 w pa) (m : Nat) (hm : ErrNo m) (c : Int) : Calls Tryz.prog 7 #[errV pa m, .int .i64 c] w fun x w' => x = .returned (.bool (decide ((m : Int) = c))) ∧ Fr (fun _ => False) w w' := by
  rcases hm with rfl | ⟨h1, h2⟩
  · exact seeis_num w _ 0 c fun w' _ => fault_nil w'
  · unfold errV
    rw [if_neg (by omega)]
    refine seeis_num w _ m c fun w' hw => ?_
    have := fault_any w' pa (h.frame hw) (m - 101) (by omega)
    rw [show (101 + ((m - 101 : Nat) : Int)) = (m : Int) by omega] at this
    exact this
end Go.Proofs.YtlhbgobjhddhlaaGreatDoor
