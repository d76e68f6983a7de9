/- See, FrameD, RdA, NodNum, TreeA, TreeB: several texts in one: a claim has at most 60 files -/
import Derived.Test.YtbegahbagnflnaaDoorMa01
import Derived.LaidEql
import Derived.Test.YtbegahbagnflnaaDoorRegion
set_option linter.unusedSimpArgs false
set_option linter.unusedVariables false
set_option linter.unnecessarySimpa false
namespace Go.Proofs.YtbegahbagnflnaaDoor
section
open Go.RowKit

/-- The variables of api's errors, in the order in which they are asked. -/
def sentG : List Nat := [4, 1, 0, 2, 6, 5, 7, 8, 9, 10, 11, 3, 12, 13, 14, 15, 16]
/-- The errors lie in their variables. -/
def Sents (w : World) (pa : Nat → Addr) : Prop := ∀ i, i < 17 → w.cell? ⟨sentG.getD i 0, 0, none⟩ = some (.iface 175 (.pointer (some (pa i))))
theorem Sents.frame {w w' : World} {pa : Nat → Addr} (h : Sents w pa) (hf : Fr (fun _ => False) w w') : Sents w' pa := fun i hi => hf.cell (h i hi) not_false

set_option maxHeartbeats 1600000 in
theorem sentinels_any (w : World) (pa : Nat → Addr) (h : Sents w pa) : Calls Tryd.prog 111 #[] w fun e w' => e = .returned (.slice (some ⟨w.heap.size, 0, none⟩) 17 17) ∧ w' = w.alloc (.cells #[.iface 175 (.pointer (some (pa 0))), .iface 175 (.pointer (some (pa 1))), .iface 175 (.pointer (some (pa 2))), .iface 175 (.pointer (some (pa 3))), .iface 175 (.pointer (some (pa 4))), .iface 175 (.pointer (some (pa 5))), .iface 175 (.pointer (some (pa 6))), .iface 175 (.pointer (some (pa 7))), .iface 175 (.pointer (some (pa 8))), .iface 175 (.pointer (some (pa 9))), .iface 175 (.pointer (some (pa 10))), .iface 175 (.pointer (some (pa 11))), .iface 175 (.pointer (some (pa 12))), .iface 175 (.pointer (some (pa 13))), .iface 175 (.pointer (some (pa 14))), .iface 175 (.pointer (some (pa 15))), .iface 175 (.pointer (some (pa 16)))] 27) := by
  have g0 : w.cell? ⟨4, 0, none⟩ = some (.iface 175 (.pointer (some (pa 0)))) := h 0 (by decide)
  have g1 : w.cell? ⟨1, 0, none⟩ = some (.iface 175 (.pointer (some (pa 1)))) := h 1 (by decide)
  have g2 : w.cell? ⟨0, 0, none⟩ = some (.iface 175 (.pointer (some (pa 2)))) := h 2 (by decide)
  have g3 : w.cell? ⟨2, 0, none⟩ = some (.iface 175 (.pointer (some (pa 3)))) := h 3 (by decide)
  have g4 : w.cell? ⟨6, 0, none⟩ = some (.iface 175 (.pointer (some (pa 4)))) := h 4 (by decide)
  have g5 : w.cell? ⟨5, 0, none⟩ = some (.iface 175 (.pointer (some (pa 5)))) := h 5 (by decide)
  have g6 : w.cell? ⟨7, 0, none⟩ = some (.iface 175 (.pointer (some (pa 6)))) := h 6 (by decide)
  have g7 : w.cell? ⟨8, 0, none⟩ = some (.iface 175 (.pointer (some (pa 7)))) := h 7 (by decide)
  have g8 : w.cell? ⟨9, 0, none⟩ = some (.iface 175 (.pointer (some (pa 8)))) := h 8 (by decide)
  have g9 : w.cell? ⟨10, 0, none⟩ = some (.iface 175 (.pointer (some (pa 9)))) := h 9 (by decide)
  have g10 : w.cell? ⟨11, 0, none⟩ = some (.iface 175 (.pointer (some (pa 10)))) := h 10 (by decide)
  have g11 : w.cell? ⟨3, 0, none⟩ = some (.iface 175 (.pointer (some (pa 11)))) := h 11 (by decide)
  have g12 : w.cell? ⟨12, 0, none⟩ = some (.iface 175 (.pointer (some (pa 12)))) := h 12 (by decide)
  have g13 : w.cell? ⟨13, 0, none⟩ = some (.iface 175 (.pointer (some (pa 13)))) := h 13 (by decide)
  have g14 : w.cell? ⟨14, 0, none⟩ = some (.iface 175 (.pointer (some (pa 14)))) := h 14 (by decide)
  have g15 : w.cell? ⟨15, 0, none⟩ = some (.iface 175 (.pointer (some (pa 15)))) := h 15 (by decide)
  have g16 : w.cell? ⟨16, 0, none⟩ = some (.iface 175 (.pointer (some (pa 16)))) := h 16 (by decide)
  clear h
  generalize pa 0 = a0 at *
  generalize pa 1 = a1 at *
  generalize pa 2 = a2 at *
  generalize pa 3 = a3 at *
  generalize pa 4 = a4 at *
  generalize pa 5 = a5 at *
  generalize pa 6 = a6 at *
  generalize pa 7 = a7 at *
  generalize pa 8 = a8 at *
  generalize pa 9 = a9 at *
  generalize pa 10 = a10 at *
  generalize pa 11 = a11 at *
  generalize pa 12 = a12 at *
  generalize pa 13 = a13 at *
  generalize pa 14 = a14 at *
  generalize pa 15 = a15 at *
  generalize pa 16 = a16 at *
  go_enter Tryd.func111, Tryd.ntmps111
  go_wp2_with fail
  go_ret
  exact ⟨rfl, rfl⟩

/-- Where an error lies. -/
def Rowed (w : World) (a : Addr) : Prop := ∃ c t, w.heap[a.block]? = some (.cells c t)
theorem Rowed.frame {w w' : World} {a : Addr} (h : Rowed w a) (hf : Fr (fun _ => False) w w') : Rowed w' a := by
  obtain ⟨c, t, h⟩ := h
  exact ⟨c, t, hf.heap h not_false⟩

theorem eql_same (a : Addr) (w : World) : (binOp .eql 27 (.iface 175 (.pointer (some a))) (.iface 175 (.pointer (some a)))).run Tryd.prog w = .ok (.bool true) w := by
  obtain ⟨i, hi, hc⟩ : ∃ i, Tryd.prog.info? 175 = some i ∧ i.comparable = true := by
    have h : (Tryd.prog.info? 175).map (·.comparable) = some true := by kernel_rfl
    cases hh : Tryd.prog.info? 175 with
    | none => rw [hh] at h; cases h
    | some i => rw [hh] at h; exact ⟨i, rfl, by simpa using h⟩
  obtain ⟨j, hj⟩ : ∃ j, Tryd.prog.info? 189 = some j := by
    have h : (Tryd.prog.info? 189).isSome = true := by kernel_rfl
    exact Option.isSome_iff_exists.1 h
  exact run_eql_iface_ptr_same w a Tryd.underlying27 Tryd.underlying175 hi hc hj
theorem eql_other {a b : Addr} {w : World} (hne : a ≠ b) (ha : Rowed w a) (hb : Rowed w b) : (binOp .eql 27 (.iface 175 (.pointer (some a))) (.iface 175 (.pointer (some b)))).run Tryd.prog w = .ok (.bool false) w := by
  obtain ⟨i, hi, hc⟩ : ∃ i, Tryd.prog.info? 175 = some i ∧ i.comparable = true := by
    have h : (Tryd.prog.info? 175).map (·.comparable) = some true := by kernel_rfl
    cases hh : Tryd.prog.info? 175 with
    | none => rw [hh] at h; cases h
    | some i => rw [hh] at h; exact ⟨i, rfl, by simpa using h⟩
  obtain ⟨j, hj, hs⟩ : ∃ j, Tryd.prog.info? 189 = some j ∧ j.size ≠ 0 := by
    have h : (Tryd.prog.info? 189).map (fun j => j.size != 0) = some true := by kernel_rfl
    cases hh : Tryd.prog.info? 189 with
    | none => rw [hh] at h; cases h
    | some i => rw [hh] at h; exact ⟨i, rfl, by simpa using h⟩
  obtain ⟨ca, ta, ha⟩ := ha
  obtain ⟨cb, tb, hb⟩ := hb
  exact run_eql_iface_ptr_other w Tryd.underlying27 Tryd.underlying175 hi hc hj hs hne ha hb

theorem alike_same (a : Addr) (w : World) : Calls Tryd.prog 112 #[.iface 175 (.pointer (some a)), .iface 175 (.pointer (some a))] w fun e w' => e = .returned (.bool true) ∧ w = w' := by
  have h := eql_same a
  go_enter Tryd.func112, Tryd.ntmps112
  go_wp2
  go_ret
  exact ⟨rfl, rfl⟩
theorem alike_other {a b : Addr} {w : World} (hne : a ≠ b) (ha : Rowed w a) (hb : Rowed w b) : Calls Tryd.prog 112 #[.iface 175 (.pointer (some a)), .iface 175 (.pointer (some b))] w fun e w' => e = .returned (.bool false) ∧ w = w' := by
  have h := eql_other hne ha hb
  clear hne ha hb
  go_enter Tryd.func112, Tryd.ntmps112
  go_wp2
  go_ret
  exact ⟨rfl, rfl⟩
/-- Api's errors: they lie in their variables, each in a block of its own, no two the same. -/
structure Sent17 (w : World) (pa : Nat → Addr) : Prop where
  s : Sents w pa
  r : ∀ i, i < 17 → Rowed w (pa i)
  n : ∀ i j, i < 17 → j < 17 → i ≠ j → pa i ≠ pa j
theorem Sent17.frame {w w' : World} {pa : Nat → Addr} (h : Sent17 w pa) (hf : Fr (fun _ => False) w w') : Sent17 w' pa := ⟨h.s.frame hf, fun i hi => (h.r i hi).frame hf, h.n⟩

theorem sent_get (pa : Nat → Addr) (k : Nat) (hk : k < 17) : (#[.iface 175 (.pointer (some (pa 0))), .iface 175 (.pointer (some (pa 1))), .iface 175 (.pointer (some (pa 2))), .iface 175 (.pointer (some (pa 3))), .iface 175 (.pointer (some (pa 4))), .iface 175 (.pointer (some (pa 5))), .iface 175 (.pointer (some (pa 6))), .iface 175 (.pointer (some (pa 7))), .iface 175 (.pointer (some (pa 8))), .iface 175 (.pointer (some (pa 9))), .iface 175 (.pointer (some (pa 10))), .iface 175 (.pointer (some (pa 11))), .iface 175 (.pointer (some (pa 12))), .iface 175 (.pointer (some (pa 13))), .iface 175 (.pointer (some (pa 14))), .iface 175 (.pointer (some (pa 15))), .iface 175 (.pointer (some (pa 16)))] : Array Value)[k]? = some (.iface 175 (.pointer (some (pa k)))) := by
  obtain rfl | rfl | rfl | rfl | rfl | rfl | rfl | rfl | rfl | rfl | rfl | rfl | rfl | rfl | rfl | rfl | rfl : k = 0 ∨ k = 1 ∨ k = 2 ∨ k = 3 ∨ k = 4 ∨ k = 5 ∨ k = 6 ∨ k = 7 ∨ k = 8 ∨ k = 9 ∨ k = 10 ∨ k = 11 ∨ k = 12 ∨ k = 13 ∨ k = 14 ∨ k = 15 ∨ k = 16 := by omega
  all_goals rfl

set_option maxHeartbeats 1600000 in
theorem sentinel_any (w : World) (pa : Nat → Addr) (h : Sent17 w pa) (j : Nat) (hj : j < 17) : Calls Tryd.prog 94 #[.iface 175 (.pointer (some (pa j)))] w fun e w' => e = .returned (.int .i64 (101 + j)) ∧ Fr (fun _ => False) w w' := by
  have hs := sentinels_any w pa h.s
  have HS := hid hs; have HH := hid h
  clear hs h
  go_enter Tryd.func94, Tryd.ntmps94
  go_wp2_with fail
  refine HS.out.mono ?_
  rintro e w' ⟨rfl, rfl⟩
  have hb := heap_alloc_new w (.cells #[.iface 175 (.pointer (some (pa 0))), .iface 175 (.pointer (some (pa 1))), .iface 175 (.pointer (some (pa 2))), .iface 175 (.pointer (some (pa 3))), .iface 175 (.pointer (some (pa 4))), .iface 175 (.pointer (some (pa 5))), .iface 175 (.pointer (some (pa 6))), .iface 175 (.pointer (some (pa 7))), .iface 175 (.pointer (some (pa 8))), .iface 175 (.pointer (some (pa 9))), .iface 175 (.pointer (some (pa 10))), .iface 175 (.pointer (some (pa 11))), .iface 175 (.pointer (some (pa 12))), .iface 175 (.pointer (some (pa 13))), .iface 175 (.pointer (some (pa 14))), .iface 175 (.pointer (some (pa 15))), .iface 175 (.pointer (some (pa 16)))] 27)
  have hF := (Fr.refl (fun _ => False) w).alloc (.cells #[.iface 175 (.pointer (some (pa 0))), .iface 175 (.pointer (some (pa 1))), .iface 175 (.pointer (some (pa 2))), .iface 175 (.pointer (some (pa 3))), .iface 175 (.pointer (some (pa 4))), .iface 175 (.pointer (some (pa 5))), .iface 175 (.pointer (some (pa 6))), .iface 175 (.pointer (some (pa 7))), .iface 175 (.pointer (some (pa 8))), .iface 175 (.pointer (some (pa 9))), .iface 175 (.pointer (some (pa 10))), .iface 175 (.pointer (some (pa 11))), .iface 175 (.pointer (some (pa 12))), .iface 175 (.pointer (some (pa 13))), .iface 175 (.pointer (some (pa 14))), .iface 175 (.pointer (some (pa 15))), .iface 175 (.pointer (some (pa 16)))] 27)
  generalize w.alloc (.cells #[.iface 175 (.pointer (some (pa 0))), .iface 175 (.pointer (some (pa 1))), .iface 175 (.pointer (some (pa 2))), .iface 175 (.pointer (some (pa 3))), .iface 175 (.pointer (some (pa 4))), .iface 175 (.pointer (some (pa 5))), .iface 175 (.pointer (some (pa 6))), .iface 175 (.pointer (some (pa 7))), .iface 175 (.pointer (some (pa 8))), .iface 175 (.pointer (some (pa 9))), .iface 175 (.pointer (some (pa 10))), .iface 175 (.pointer (some (pa 11))), .iface 175 (.pointer (some (pa 12))), .iface 175 (.pointer (some (pa 13))), .iface 175 (.pointer (some (pa 14))), .iface 175 (.pointer (some (pa 15))), .iface 175 (.pointer (some (pa 16)))] 27) = W at *
  have H2 := HH.out.frame hF
  have hg := sent_get pa
  have hce := fun k (hk : k < 17) => (cell_of_row W w.heap.size k _ _ _ hb).trans (hg k hk)
  have HC := hid hce; have HF := hid hF; have H2 := hid H2
  clear hb hF hg hce HS HH
  go_wp2_with fail
  go_loopw [4] (fun i wr => ∃ k : Nat, k ≤ j ∧ i = .int .i64 k ∧ W = wr) (fun i _ => 17 - (intOf i).toNat)
  case atStart => exact ⟨0, Nat.zero_le _, rfl, rfl⟩
  case round =>
    obtain ⟨k, hk, rfl, rfl⟩ := hrel
    have hk17 : k < 17 := by omega
    have hc := HC.out k hk17
    by_cases hkj : k = j
    · subst hkj
      have ha := alike_same (pa k) W
      have HA := hid ha
      clear ha
      go_wp2_with fail
      refine HA.out.mono ?_
      rintro e w' ⟨rfl, rfl⟩
      go_wp2
      go_ret
      exact ⟨rfl, HF.out⟩
    · have ha := alike_other (w := W) (H2.out.n j k hj hk17 (Ne.symm hkj)) (H2.out.r j hj) (H2.out.r k hk17)
      have HA := hid ha
      clear ha
      go_wp2_with fail
      refine HA.out.mono ?_
      rintro e w' ⟨rfl, rfl⟩
      go_wp2
      go_roundw
      case rel => exact ⟨k + 1, by omega, by go_num, trivial⟩
      case measure => simp [intOf]; omega

theorem assert_raise (a : Addr) (w : World) : (Instr.typeAssert (.iface 175 (.pointer (some a))) 27 141 true).run Tryd.prog w = .ok (.tuple #[.pointer none, .bool false]) w := by kernel_rfl
theorem assert_at (a : Addr) (w : World) : (Instr.typeAssert (.iface 175 (.pointer (some a))) 27 121 true).run Tryd.prog w = .ok (.tuple #[.pointer none, .bool false]) w := by kernel_rfl

set_option maxHeartbeats 1600000 in
theorem inner_any (w : World) (pa : Nat → Addr) (h : Sent17 w pa) (j : Nat) (hj : j < 17) : Calls Tryd.prog 75 #[.iface 175 (.pointer (some (pa j)))] w fun e w' => e = .returned (bareV (101 + j)) ∧ Fr (fun _ => False) w w' := by
  have HH := hid h
  clear h
  have ht := assert_raise (pa j)
  go_enter Tryd.func75, Tryd.ntmps75
  go_wp2_with fail
  have hF := (Fr.refl (fun _ => False) w).alloc (.cells #[.int .i64 0, .bool false, .int .i64 0, .int .i64 0, .int .i64 0, .string ⟨#[]⟩, .slice none 0 0] 49)
  have hrow := heap_alloc_new w (.cells #[.int .i64 0, .bool false, .int .i64 0, .int .i64 0, .int .i64 0, .string ⟨#[]⟩, .slice none 0 0] 49)
  refine (sentinel_any _ pa (HH.out.frame hF) j hj).mono ?_
  rintro e w2 ⟨rfl, hf2⟩
  have HF := hid (hF.trans' hf2); have HR2 := hid (hf2.heap hrow not_false)
  clear hF hf2 hrow ht
  go_wp2_with fail
  refine (bare_any (101 + j) w2).mono ?_
  rintro e w3 ⟨rfl, hf3⟩
  have HF3 := hid (HF.out.trans' hf3); have HRR := hid (hf3.heap HR2.out not_false)
  clear hf3
  unfold bareV
  have hR := HRR.out
  have x0 : w3.cell? ⟨w.heap.size, 0, none⟩ = some (.int .i64 0) := by rw [cell_of_row _ _ 0 _ _ _ hR]; rfl
  have x1 : w3.cell? ⟨w.heap.size, 1, none⟩ = some (.bool false) := by rw [cell_of_row _ _ 1 _ _ _ hR]; rfl
  have x2 : w3.cell? ⟨w.heap.size, 2, none⟩ = some (.int .i64 0) := by rw [cell_of_row _ _ 2 _ _ _ hR]; rfl
  have x3 : w3.cell? ⟨w.heap.size, 3, none⟩ = some (.int .i64 0) := by rw [cell_of_row _ _ 3 _ _ _ hR]; rfl
  have x4 : w3.cell? ⟨w.heap.size, 4, none⟩ = some (.int .i64 0) := by rw [cell_of_row _ _ 4 _ _ _ hR]; rfl
  have x5 : w3.cell? ⟨w.heap.size, 5, none⟩ = some (.string ⟨#[]⟩) := by rw [cell_of_row _ _ 5 _ _ _ hR]; rfl
  have x6 : w3.cell? ⟨w.heap.size, 6, none⟩ = some (.slice none 0 0) := by rw [cell_of_row _ _ 6 _ _ _ hR]; rfl
  have fz : ∀ i, w3.frozen? ⟨w.heap.size, i, none⟩ = false := fun i => frozen_of_row _ _ i _ _ hR
  clear hR
  go_wp2_with fail
  have hR2 := (setCell_row 6 (.slice none 0 0) (setCell_row 5 (.string ⟨#[]⟩) (setCell_row 4 (.int .i64 0) (setCell_row 3 (.int .i64 0) (setCell_row 2 (.int .i64 0) (setCell_row 1 (.bool false) (setCell_row 0 (.int .i64 (101 + j)) HRR.out)))))))
  simp only [List.setIfInBounds_toArray, List.set_cons_zero, List.set_cons_succ] at hR2
  have hf8 : Fr (fun q => q = w.heap.size) w3 (((((((w3.setCell ⟨w.heap.size, 0, none⟩ (.int .i64 (101 + j))).setCell ⟨w.heap.size, 1, none⟩ (.bool false)).setCell ⟨w.heap.size, 2, none⟩ (.int .i64 0)).setCell ⟨w.heap.size, 3, none⟩ (.int .i64 0)).setCell ⟨w.heap.size, 4, none⟩ (.int .i64 0)).setCell ⟨w.heap.size, 5, none⟩ (.string ⟨#[]⟩)).setCell ⟨w.heap.size, 6, none⟩ (.slice none 0 0)) := ((((((((Fr.refl (fun q => q = w.heap.size) w3).setCell (p := ⟨w.heap.size, 0, none⟩) (.inl rfl) (.int .i64 (101 + j))).setCell (p := ⟨w.heap.size, 1, none⟩) (.inl rfl) (.bool false)).setCell (p := ⟨w.heap.size, 2, none⟩) (.inl rfl) (.int .i64 0)).setCell (p := ⟨w.heap.size, 3, none⟩) (.inl rfl) (.int .i64 0)).setCell (p := ⟨w.heap.size, 4, none⟩) (.inl rfl) (.int .i64 0)).setCell (p := ⟨w.heap.size, 5, none⟩) (.inl rfl) (.string ⟨#[]⟩)).setCell (p := ⟨w.heap.size, 6, none⟩) (.inl rfl) (.slice none 0 0))
  refine bodyPost_ret (results_cell_row rfl _ _ w.heap.size _ _ _ _ rfl hR2 Tryd.underlying49 rfl (by kernel_rfl)) rfl ?_
  exact ⟨rfl, HF3.out.trans hf8 (fun _ _ => id) (fun q hq e => by omega)⟩

set_option maxHeartbeats 1600000 in
theorem fault_any (w : World) (pa : Nat → Addr) (h : Sent17 w pa) (j : Nat) (hj : j < 17) : Calls Tryd.prog 45 #[.iface 175 (.pointer (some (pa j)))] w fun e w' => e = .returned (bareV (101 + j)) ∧ Fr (fun _ => False) w w' := by
  have HH := hid h
  clear h
  have ht := assert_at (pa j)
  go_enter Tryd.func45, Tryd.ntmps45
  go_wp2_with fail
  have hF := (Fr.refl (fun _ => False) w).alloc (.cells #[.int .i64 0, .bool false, .int .i64 0, .int .i64 0, .int .i64 0, .string ⟨#[]⟩, .slice none 0 0] 49)
  have hrow := heap_alloc_new w (.cells #[.int .i64 0, .bool false, .int .i64 0, .int .i64 0, .int .i64 0, .string ⟨#[]⟩, .slice none 0 0] 49)
  refine (inner_any _ pa (HH.out.frame hF) j hj).mono ?_
  rintro e w3 ⟨rfl, hf3⟩
  have HF3 := hid (hF.trans' hf3); have HRR := hid (hf3.heap hrow not_false)
  clear hF hf3 hrow ht
  unfold bareV
  have hR := HRR.out
  have x0 : w3.cell? ⟨w.heap.size, 0, none⟩ = some (.int .i64 0) := by rw [cell_of_row _ _ 0 _ _ _ hR]; rfl
  have x1 : w3.cell? ⟨w.heap.size, 1, none⟩ = some (.bool false) := by rw [cell_of_row _ _ 1 _ _ _ hR]; rfl
  have x2 : w3.cell? ⟨w.heap.size, 2, none⟩ = some (.int .i64 0) := by rw [cell_of_row _ _ 2 _ _ _ hR]; rfl
  have x3 : w3.cell? ⟨w.heap.size, 3, none⟩ = some (.int .i64 0) := by rw [cell_of_row _ _ 3 _ _ _ hR]; rfl
  have x4 : w3.cell? ⟨w.heap.size, 4, none⟩ = some (.int .i64 0) := by rw [cell_of_row _ _ 4 _ _ _ hR]; rfl
  have x5 : w3.cell? ⟨w.heap.size, 5, none⟩ = some (.string ⟨#[]⟩) := by rw [cell_of_row _ _ 5 _ _ _ hR]; rfl
  have x6 : w3.cell? ⟨w.heap.size, 6, none⟩ = some (.slice none 0 0) := by rw [cell_of_row _ _ 6 _ _ _ hR]; rfl
  have fz : ∀ i, w3.frozen? ⟨w.heap.size, i, none⟩ = false := fun i => frozen_of_row _ _ i _ _ hR
  clear hR
  go_wp2_with fail
  have hR2 := (setCell_row 6 (.slice none 0 0) (setCell_row 5 (.string ⟨#[]⟩) (setCell_row 4 (.int .i64 0) (setCell_row 3 (.int .i64 0) (setCell_row 2 (.int .i64 0) (setCell_row 1 (.bool false) (setCell_row 0 (.int .i64 (101 + j)) HRR.out)))))))
  simp only [List.setIfInBounds_toArray, List.set_cons_zero, List.set_cons_succ] at hR2
  have hf8 : Fr (fun q => q = w.heap.size) w3 (((((((w3.setCell ⟨w.heap.size, 0, none⟩ (.int .i64 (101 + j))).setCell ⟨w.heap.size, 1, none⟩ (.bool false)).setCell ⟨w.heap.size, 2, none⟩ (.int .i64 0)).setCell ⟨w.heap.size, 3, none⟩ (.int .i64 0)).setCell ⟨w.heap.size, 4, none⟩ (.int .i64 0)).setCell ⟨w.heap.size, 5, none⟩ (.string ⟨#[]⟩)).setCell ⟨w.heap.size, 6, none⟩ (.slice none 0 0)) := ((((((((Fr.refl (fun q => q = w.heap.size) w3).setCell (p := ⟨w.heap.size, 0, none⟩) (.inl rfl) (.int .i64 (101 + j))).setCell (p := ⟨w.heap.size, 1, none⟩) (.inl rfl) (.bool false)).setCell (p := ⟨w.heap.size, 2, none⟩) (.inl rfl) (.int .i64 0)).setCell (p := ⟨w.heap.size, 3, none⟩) (.inl rfl) (.int .i64 0)).setCell (p := ⟨w.heap.size, 4, none⟩) (.inl rfl) (.int .i64 0)).setCell (p := ⟨w.heap.size, 5, none⟩) (.inl rfl) (.string ⟨#[]⟩)).setCell (p := ⟨w.heap.size, 6, none⟩) (.inl rfl) (.slice none 0 0))
  refine bodyPost_ret (results_cell_row rfl _ _ w.heap.size _ _ _ _ rfl hR2 Tryd.underlying49 rfl (by kernel_rfl)) rfl ?_
  exact ⟨rfl, HF3.out.trans hf8 (fun _ _ => id) (fun q hq e => by omega)⟩

set_option maxHeartbeats 1600000 in
theorem fault_nil (w : World) : Calls Tryd.prog 45 #[.nilIface] w fun e w' => e = .returned (bareV 0) ∧ Fr (fun _ => False) w w' := by
  go_enter Tryd.func45, Tryd.ntmps45
  go_wp2_with fail
  have hF := (Fr.refl (fun _ => False) w).alloc (.cells #[.int .i64 0, .bool false, .int .i64 0, .int .i64 0, .int .i64 0, .string ⟨#[]⟩, .slice none 0 0] 49)
  have hrow := heap_alloc_new w (.cells #[.int .i64 0, .bool false, .int .i64 0, .int .i64 0, .int .i64 0, .string ⟨#[]⟩, .slice none 0 0] 49)
  refine (none_any _).mono ?_
  rintro e w3 ⟨rfl, hf3⟩
  have HF3 := hid (hF.trans' hf3); have HRR := hid (hf3.heap hrow not_false)
  clear hF hf3 hrow
  unfold bareV
  have hR := HRR.out
  have x0 : w3.cell? ⟨w.heap.size, 0, none⟩ = some (.int .i64 0) := by rw [cell_of_row _ _ 0 _ _ _ hR]; rfl
  have x1 : w3.cell? ⟨w.heap.size, 1, none⟩ = some (.bool false) := by rw [cell_of_row _ _ 1 _ _ _ hR]; rfl
  have x2 : w3.cell? ⟨w.heap.size, 2, none⟩ = some (.int .i64 0) := by rw [cell_of_row _ _ 2 _ _ _ hR]; rfl
  have x3 : w3.cell? ⟨w.heap.size, 3, none⟩ = some (.int .i64 0) := by rw [cell_of_row _ _ 3 _ _ _ hR]; rfl
  have x4 : w3.cell? ⟨w.heap.size, 4, none⟩ = some (.int .i64 0) := by rw [cell_of_row _ _ 4 _ _ _ hR]; rfl
  have x5 : w3.cell? ⟨w.heap.size, 5, none⟩ = some (.string ⟨#[]⟩) := by rw [cell_of_row _ _ 5 _ _ _ hR]; rfl
  have x6 : w3.cell? ⟨w.heap.size, 6, none⟩ = some (.slice none 0 0) := by rw [cell_of_row _ _ 6 _ _ _ hR]; rfl
  have fz : ∀ i, w3.frozen? ⟨w.heap.size, i, none⟩ = false := fun i => frozen_of_row _ _ i _ _ hR
  clear hR
  go_wp2_with fail
  have hR2 := (setCell_row 6 (.slice none 0 0) (setCell_row 5 (.string ⟨#[]⟩) (setCell_row 4 (.int .i64 0) (setCell_row 3 (.int .i64 0) (setCell_row 2 (.int .i64 0) (setCell_row 1 (.bool false) (setCell_row 0 (.int .i64 0) HRR.out)))))))
  simp only [List.setIfInBounds_toArray, List.set_cons_zero, List.set_cons_succ] at hR2
  have hf8 : Fr (fun q => q = w.heap.size) w3 (((((((w3.setCell ⟨w.heap.size, 0, none⟩ (.int .i64 0)).setCell ⟨w.heap.size, 1, none⟩ (.bool false)).setCell ⟨w.heap.size, 2, none⟩ (.int .i64 0)).setCell ⟨w.heap.size, 3, none⟩ (.int .i64 0)).setCell ⟨w.heap.size, 4, none⟩ (.int .i64 0)).setCell ⟨w.heap.size, 5, none⟩ (.string ⟨#[]⟩)).setCell ⟨w.heap.size, 6, none⟩ (.slice none 0 0)) := ((((((((Fr.refl (fun q => q = w.heap.size) w3).setCell (p := ⟨w.heap.size, 0, none⟩) (.inl rfl) (.int .i64 0)).setCell (p := ⟨w.heap.size, 1, none⟩) (.inl rfl) (.bool false)).setCell (p := ⟨w.heap.size, 2, none⟩) (.inl rfl) (.int .i64 0)).setCell (p := ⟨w.heap.size, 3, none⟩) (.inl rfl) (.int .i64 0)).setCell (p := ⟨w.heap.size, 4, none⟩) (.inl rfl) (.int .i64 0)).setCell (p := ⟨w.heap.size, 5, none⟩) (.inl rfl) (.string ⟨#[]⟩)).setCell (p := ⟨w.heap.size, 6, none⟩) (.inl rfl) (.slice none 0 0))
  refine bodyPost_ret (results_cell_row rfl _ _ w.heap.size _ _ _ _ rfl hR2 Tryd.underlying49 rfl (by kernel_rfl)) rfl ?_
  exact ⟨rfl, HF3.out.trans hf8 (fun _ _ => id) (fun q hq e => by omega)⟩
set_option maxHeartbeats 1600000 in
theorem seesame_num (w : World) (e : Value) (m c : Int) (hf : ∀ w', Fr (fun _ => False) w w' → Calls Tryd.prog 45 #[e] w' fun x w'' => x = .returned (bareV m) ∧ Fr (fun _ => False) w' w'') :
    Calls Tryd.prog 25 #[e, bareV c] w fun x w' => x = .returned (.bool (decide (m = c))) ∧ Fr (fun _ => False) w w' := by
  have HC := hid hf
  clear hf
  have hb := heap_alloc_new w (.cells #[.int .i64 c, .bool false, .int .i64 0, .int .i64 0, .int .i64 0, .string ⟨#[]⟩, .slice none 0 0] 49)
  have hF := (Fr.refl (fun _ => False) w).alloc (.cells #[.int .i64 c, .bool false, .int .i64 0, .int .i64 0, .int .i64 0, .string ⟨#[]⟩, .slice none 0 0] 49)
  have hsf := fun w' => samefault_num m c w'
  have HSF := hid hsf
  clear hsf
  unfold bareV at HC HSF ⊢
  go_enter Tryd.func25, Tryd.ntmps25
  go_upto_region 1 with fail
  generalize w.alloc (.cells #[.int .i64 c, .bool false, .int .i64 0, .int .i64 0, .int .i64 0, .string ⟨#[]⟩, .slice none 0 0] 49) = W at *
  have HF := hid hF
  clear hF
  refine wp_region_cls (fun w' => Fr (fun _ => False) W w') (by kernel_rfl) (by kernel_rfl) (Fr.refl _ _).drew ?_
  (refine q_take ?_ (by kernel_rfl) ?_ ?_; rotate_left; (· intro w' hS; go_simp; try with_reducible rfl); (try simp only [Act.put, List.setIfInBounds_toArray, List.set_cons_zero, List.set_cons_succ]))
  (refine q_call ?_ ?_ (by kernel_rfl) ?_ ?_; rotate_left 2; (· intro w' hS; go_simp; first | with_reducible rfl | (constructor <;> with_reducible rfl)); (refine ⟨_, fun w' hw => (HC.out w' (HF.out.trans' hw)).mono fun _ _ h => ⟨h.1, hw.trans' h.2⟩, ?_⟩); (try simp only [Act.put, List.setIfInBounds_toArray, List.set_cons_zero, List.set_cons_succ]))
  (refine q_load (by kernel_rfl) rfl rfl (fun w' hw => Fr.heap hw hb not_false) (by kernel_rfl) (by kernel_rfl) ?_; (try simp only [Act.put, List.setIfInBounds_toArray, List.set_cons_zero, List.set_cons_succ]))
  (refine q_call ?_ ?_ (by kernel_rfl) ?_ ?_; rotate_left 2; (· intro w' hS; go_simp; first | with_reducible rfl | (constructor <;> with_reducible rfl)); (refine ⟨_, fun w' hw => (HSF.out w').mono fun _ _ h => ⟨h.1, hw.trans' h.2⟩, ?_⟩); (try simp only [Act.put, List.setIfInBounds_toArray, List.set_cons_zero, List.set_cons_succ]))
  (refine q_take ?_ (by kernel_rfl) ?_ ?_; rotate_left; (· intro w' hS; go_simp; try with_reducible rfl); (try simp only [Act.put, List.setIfInBounds_toArray, List.set_cons_zero, List.set_cons_succ]))
  refine q_end (fun W6 hw => ?_)
  have HW := hid (HF.out.trans' hw)
  clear hw
  go_wp2
  go_ret
  exact ⟨rfl, HW.out⟩

set_option maxHeartbeats 1600000 in
theorem seeis_num (w : World) (e : Value) (m c : Int) (hf : ∀ w', Fr (fun _ => False) w w' → Calls Tryd.prog 45 #[e] w' fun x w'' => x = .returned (bareV m) ∧ Fr (fun _ => False) w' w'') :
    Calls Tryd.prog 13 #[e, .int .i64 c] w fun x w' => x = .returned (.bool (decide (m = c))) ∧ Fr (fun _ => False) w w' := by
  have HC := hid hf
  clear hf
  go_enter Tryd.func13, Tryd.ntmps13
  go_wp2_with fail
  refine (bare_any c w).mono ?_
  rintro x w2 ⟨rfl, hf2⟩
  have hs := seesame_num w2 e m c fun w' hw => HC.out w' (hf2.trans' hw)
  have HS := hid hs; have HF2 := hid hf2
  clear hs hf2
  unfold bareV at HS ⊢
  go_wp2_with fail
  refine HS.out.mono ?_
  rintro x w3 ⟨rfl, hf3⟩
  have HF3 := hid (HF2.out.trans' hf3)
  clear hf3
  go_wp2
  go_ret
  exact ⟨rfl, HF3.out⟩


/-- The error of a number: none, or api's. -/
def errV (pa : Nat → Addr) (m : Nat) : Value := if m = 0 then .nilIface else .iface 175 (.pointer (some (pa (m - 101))))
def ErrNo (m : Nat) : Prop := m = 0 ∨ 101 ≤ m ∧ m ≤ 117
theorem is_num (w : World) (pa : Nat → Addr) (h : Sent17 w pa) (m : Nat) (hm : ErrNo m) (c : Int) : Calls Tryd.prog 13 #[errV pa m, .int .i64 c] w fun x w' => x = .returned (.bool (decide ((m : Int) = c))) ∧ Fr (fun _ => False) w w' := by
  rcases hm with rfl | ⟨h1, h2⟩
  · exact seeis_num w _ 0 c fun w' _ => fault_nil w'
  · unfold errV
    rw [if_neg (by omega)]
    refine seeis_num w _ m c fun w' hw => ?_
    have := fault_any w' pa (h.frame hw) (m - 101) (by omega)
    rw [show (101 + ((m - 101 : Nat) : Int)) = (m : Int) by omega] at this
    exact this
end
section
open Go.RowKit

/-- What stands ahead of a sum, or the error's number. -/
def openB (l : List UInt8) : List UInt8 × Nat :=
  if l.length < 4 then ([], 101) else if n4 (l.drop (l.length - 4)) = (sumB (l.take (l.length - 4))).toNat then (l.take (l.length - 4), 0) else ([], 102)

theorem own_baseF {w : World} {b b' e size n : Nat} {v : Value} {xs : List Value} (h : w.ownsRow b e size v n xs) (hb : b' ≤ b) : w.ownsRow b' e size v n xs := by
  refine ⟨h.1, h.2.imp id ?_⟩
  rintro ⟨g, cap, cur, h1, h2, r⟩
  exact ⟨g, cap, cur, h1, Nat.le_trans hb h2, r⟩
theorem Bs.from {D : Nat → Prop} {w : World} {b o c : Nat} {l : List UInt8} (h : Bs D w (.slice (some ⟨b, o, none⟩) l.length c) l) (i : Nat) (hi : i < l.length) : Bs D w (.slice (some ⟨b, o + i, none⟩) (l.length - i) (c - i)) (l.drop i) := by
  have h0 := h
  obtain ⟨a0, c0, e, h1, h2, _⟩ := h0
  simp only [Value.slice.injEq] at e
  obtain ⟨rfl, _, rfl⟩ := e
  have := Bs.sub (a' := some ⟨b, o + i, none⟩) (c' := c - i) (len' := l.length - i) h i l.length (by omega) (Nat.le_refl _) rfl rfl (by rw [if_neg (by omega)]; simp only [Option.map_some]; exact congrArg some (by unfold Addr.add; split <;> simp_all))
  rwa [List.take_length] at this
theorem Bs.upto {D : Nat → Prop} {w : World} {a : Option Addr} {c : Nat} {l : List UInt8} (h : Bs D w (.slice a l.length c) l) (i : Nat) (hi : i ≤ l.length) : Bs D w (.slice a i c) (l.take i) := by
  obtain ⟨a0, c0, e, h1, h2, hk⟩ := h
  simp only [Value.slice.injEq] at e
  obtain ⟨rfl, _, rfl⟩ := e
  refine ⟨a, c, by simp [Nat.min_eq_left hi], by simp; omega, h2, fun k hk' => ?_⟩
  have hki : k < i := by simp at hk'; omega
  obtain ⟨b, o, e, hD, hc⟩ := hk k (by omega)
  refine ⟨b, o, e, hD, ?_⟩
  rw [hc]
  simp [List.getD, List.getElem?_take, hki]

theorem open_any (D : Nat → Prop) (pa : Nat → Addr) (v : Value) (l : List UInt8) (w : World) (hB : Bs D w v l) (hl : l.length ≤ 1073741824) (hE : Sents w pa) :
    Calls Tryd.prog 40 #[v] w fun e w' => ∃ v', e = .returned (.tuple #[v', errV pa (openB l).2]) ∧ OB w.heap.size w' v' (openB l).1 ∧ Fr (fun _ => False) w w' := by
  have hB0 := hB
  obtain ⟨a, c, rfl, hlc, hcm, hk⟩ := hB
  have e0 : w.cell? ⟨4, 0, none⟩ = some (.iface 175 (.pointer (some (pa 0)))) := hE 0 (by decide)
  have e1 : w.cell? ⟨1, 0, none⟩ = some (.iface 175 (.pointer (some (pa 1)))) := hE 1 (by decide)
  by_cases h4 : l.length < 4
  · have hr : openB l = ([], 101) := by simp [openB, h4]
    rw [hr]
    have hm : decide ((l.length : Int) - 4 < 0) = true := by simp; omega
    have HH := hid hr
    clear hE hB0 hk hr
    go_enter Tryd.func40, Tryd.ntmps40
    go_wp2_with fail
    go_quiet (fail)
    go_wp2
    go_ret2
    exact ⟨_, rfl, World.ownsRow_nil _ _ _ _, (Fr.refl _ _).drewN _⟩
  · obtain ⟨n, hn⟩ : ∃ n, l.length = n + 4 := ⟨l.length - 4, by omega⟩
    obtain ⟨b, o, rfl, _, _⟩ := hk 0 (by omega)
    clear hk
    have hb1 := Bs.from hB0 n (by omega)
    have hb2 := Bs.upto hB0 n (by omega)
    have hop : openB l = if n4 (l.drop n) = (sumB (l.take n)).toNat then (l.take n, 0) else ([], 102) := by
      unfold openB
      rw [if_neg h4, show l.length - 4 = n by omega]
    rw [hn] at hb1 ⊢
    rw [show n + 4 - n = 4 by omega] at hb1
    have hd4 : 4 ≤ (l.drop n).length := by simp; omega
    have htl : (l.take n).length ≤ 1073741824 := by simp; omega
    have hnb : n ≤ 1073741824 := by omega
    have hnc : n + 4 ≤ c := by omega
    unfold maxLen at hcm
    have hcn : ¬ c = n := by omega
    have hle : (n : Int) ≤ (n : Int) + 4 := by omega
    have hlc2 : n ≤ c := by omega
    have hlo := n4_lt (l.drop n)
    generalize hD : l.drop n = ld at *
    generalize hT : l.take n = lt at *
    generalize hx : n4 ld = x at *
    have hHX := hid hx; have HO := hid hop; have HB1 := hid hb1; have HB2 := hid hb2; have HDD := hid hD; have HTT := hid hT; have HN := hid hn; have HE := hid hE; have HB0 := hid hB0
    clear hx hop hb1 hb2 hD hT hn hE hB0
    go_enter Tryd.func40, Tryd.ntmps40
    go_upto_region 4 with fail
    refine wp_region_cls (fun w' => Fr (fun _ => False) w w') (by kernel_rfl) (by kernel_rfl) (Fr.refl _ _).drew ?_
    (refine q_take ?_ (by kernel_rfl) ?_ ?_; rotate_left; (· intro w' hS; go_simp; try with_reducible rfl); (try simp only [Act.put, List.setIfInBounds_toArray, List.set_cons_zero, List.set_cons_succ]))
    (refine q_take ?_ (by kernel_rfl) ?_ ?_; rotate_left; (· intro w' hS; go_simp; try with_reducible rfl); (try simp only [Act.put, List.setIfInBounds_toArray, List.set_cons_zero, List.set_cons_succ]))
    (refine q_take ?_ (by kernel_rfl) ?_ ?_; rotate_left; (· intro w' hS; go_simp; try with_reducible rfl); (try simp only [Act.put, List.setIfInBounds_toArray, List.set_cons_zero, List.set_cons_succ]))
    (refine q_call ?_ ?_ (by kernel_rfl) ?_ ?_; rotate_left 2; (· intro w' hS; go_simp; first | with_reducible rfl | (constructor <;> with_reducible rfl)); (refine ⟨_, fun w' hw => (fnumber_any D _ ld w' (HB1.out.frame hw (fun _ _ => not_false)) hd4).mono fun _ _ h => ⟨by rw [h.1, hHX.out], by obtain ⟨n, rfl⟩ := h.2; exact hw.drewN n⟩, ?_⟩); (try simp only [Act.put, List.setIfInBounds_toArray, List.set_cons_zero, List.set_cons_succ]))
    (refine q_take ?_ (by kernel_rfl) ?_ ?_; rotate_left; (· intro w' hS; go_simp; try with_reducible rfl); (try simp only [Act.put, List.setIfInBounds_toArray, List.set_cons_zero, List.set_cons_succ]))
    (refine q_take ?_ (by kernel_rfl) ?_ ?_; rotate_left; (· intro w' hS; go_simp; try with_reducible rfl); (try simp only [Act.put, List.setIfInBounds_toArray, List.set_cons_zero, List.set_cons_succ]))
    (refine q_take ?_ (by kernel_rfl) ?_ ?_; rotate_left; (· intro w' hS; go_simp; try with_reducible rfl); (try simp only [Act.put, List.setIfInBounds_toArray, List.set_cons_zero, List.set_cons_succ]))
    (refine q_call ?_ ?_ (by kernel_rfl) ?_ ?_; rotate_left 2; (· intro w' hS; go_simp; first | with_reducible rfl | (constructor <;> with_reducible rfl)); (refine ⟨_, fun w' hw => (sum_any D _ lt w' (HB2.out.frame hw (fun _ _ => not_false))).mono fun _ _ h => ⟨h.1, hw.trans' h.2⟩, ?_⟩); (try simp only [Act.put, List.setIfInBounds_toArray, List.set_cons_zero, List.set_cons_succ]))
    (refine q_take ?_ (by kernel_rfl) ?_ ?_; rotate_left; (· intro w' hS; go_simp; try with_reducible rfl); (try simp only [Act.put, List.setIfInBounds_toArray, List.set_cons_zero, List.set_cons_succ]))
    refine q_end (fun W hw => ?_)
    have HW := hid hw
    clear hw
    by_cases hxe : x = (sumB lt).toNat
    · rw [if_pos hxe] at HO
      have hb : ((x : Int) != ((sumB lt).toNat : Int)) = false := by rw [bne_eq_false_iff_eq]; omega
      have HX := hid hxe
      clear hxe
      go_wp2_with fail
      refine (clone_any D _ lt W (HB2.out.frame HW.out (fun _ _ => not_false)) htl).mono ?_
      rintro e w3 ⟨v3, rfl, ho3, hf3⟩
      have HO3 := hid (own_baseF ho3 HW.out.size); have HF3 := hid (HW.out.trans' hf3)
      clear ho3 hf3
      go_wp2_with fail
      go_ret2
      refine ⟨v3, ?_, ?_, HF3.out⟩
      · rw [HO.out]; rfl
      · rw [HO.out]; exact HO3.out
    · rw [if_neg hxe] at HO
      have hb : ((x : Int) != ((sumB lt).toNat : Int)) = true := by rw [bne_iff_ne]; omega
      have HX := hid hxe
      have e1' := HW.out.cell e1 not_false
      clear hxe e0 e1
      go_wp2_with fail
      go_quiet (fail)
      go_wp2
      go_ret2
      refine ⟨.slice none 0 0, ?_, ?_, HW.out.drewN _⟩
      · rw [HO.out]; rfl
      · rw [HO.out]; exact World.ownsRow_nil _ _ _ _

end
section
open Go.RowKit

/-- Behind the variables of the errors. -/
def sentB : Nat := sentG.foldl max 0 + 1
theorem sent_lt : ∀ i, i < 17 → sentG.getD i 0 < sentB := by decide
/-- A reader in memory. -/
def RdAt (w : World) (R : Nat) (B : List UInt8) (s : RS) : Prop :=
  (sentB ≤ R ∧ s.at_ ≤ B.length ∧ B.length ≤ 1073741824) ∧ ∃ bv ev, w.heap[R]? = some (.cells #[bv, .int .i64 (s.at_ : Int), ev] 65 (0, 0)) ∧ Bs (fun k => k < R) w bv B ∧ ((s.ok = true ∧ ev = .nilIface) ∨ (s.ok = false ∧ ∃ t x, ev = .iface t x))
theorem RdAt.frame {w w' : World} {R : Nat} {B : List UInt8} {s : RS} (h : RdAt w R B s) (hf : Fr (fun _ => False) w w') : RdAt w' R B s := by
  obtain ⟨h0, bv, ev, h1, h2, h3⟩ := h
  exact ⟨h0, bv, ev, hf.heap h1 not_false, h2.frame hf fun _ _ => not_false, h3⟩
theorem RdAt.other {S : Nat → Prop} {w w' : World} {R : Nat} {B : List UInt8} {s : RS} (h : RdAt w R B s) (hf : Fr S w w') (hS : ∀ k, k ≤ R → ¬ S k) : RdAt w' R B s := by
  obtain ⟨h0, bv, ev, h1, h2, h3⟩ := h
  exact ⟨h0, bv, ev, hf.heap h1 (hS R (Nat.le_refl _)), h2.frame hf fun k hk => hS k (Nat.le_of_lt hk), h3⟩
theorem Sents.at_ {w w' : World} {pa : Nat → Addr} {R : Nat} (h : Sents w pa) (hf : Fr (fun k => k = R) w w') (hR : sentB ≤ R) : Sents w' pa := fun i hi => hf.cell (h i hi) (by have := sent_lt i hi; show ¬ sentG.getD i 0 = R; omega)
theorem set3 {w : World} {B : Nat} {t : TypeId} {fz : Nat × Nat} {a0 a1 a2 : Value} (h : w.heap[B]? = some (.cells #[a0, a1, a2] t fz)) :
    (∀ u, (w.setCell ⟨B, 1, none⟩ u).heap[B]? = some (.cells #[a0, u, a2] t fz) ∧ Fr (fun q => q = B) w (w.setCell ⟨B, 1, none⟩ u)) ∧ (∀ u, (w.setCell ⟨B, 2, none⟩ u).heap[B]? = some (.cells #[a0, a1, u] t fz) ∧ Fr (fun q => q = B) w (w.setCell ⟨B, 2, none⟩ u)) := by
  have hr := Fr.refl (fun q => q = B) w
  refine ⟨fun u => ⟨?_, hr.setCell (.inl rfl) _⟩, fun u => ⟨?_, hr.setCell (.inl rfl) _⟩⟩
  · have h0 := setCell_row 1 u h
    simpa only [List.setIfInBounds_toArray, List.set_cons_zero, List.set_cons_succ] using h0
  · have h0 := setCell_row 2 u h
    simpa only [List.setIfInBounds_toArray, List.set_cons_zero, List.set_cons_succ] using h0
theorem rdfail_any {B : List UInt8} {s : RS} {R : Nat} (w : World) (h : RdAt w R B s) (t : TypeId) (x : Value) :
    Calls Tryd.prog 43 #[.pointer (some ⟨R, 0, none⟩), .iface t x] w fun e w' => e = .returned (.tuple #[]) ∧ RdAt w' R B s.fail ∧ Fr (fun k => k = R) w w' := by
  obtain ⟨h0, bv, ev, h1, h2, h3⟩ := h
  have c2 : w.cell? ⟨R, 2, none⟩ = some ev := by rw [cell_of_row _ _ _ _ _ _ h1]; rfl
  rcases h3 with ⟨hok, rfl⟩ | ⟨hok, tt, xx, rfl⟩
  · have f2 := frozen_of_row w _ 2 _ _ h1
    obtain ⟨hn1, hn2⟩ := (set3 h1).2 (.iface t x)
    have HN1 := hid hn1; have HN2 := hid hn2; have H2 := hid (h2.frame hn2 fun _ h => Nat.ne_of_lt h); have H0 := hid h0
    clear h1 hn1 hn2 h2 h0
    go_enter Tryd.func43, Tryd.ntmps43
    go_wp2_with fail
    go_end0
    exact ⟨rfl, ⟨H0.out, bv, _, HN1.out, H2.out, .inr ⟨rfl, _, _, rfl⟩⟩, HN2.out⟩
  · have H := hid (show RdAt w R B s.fail from ⟨h0, bv, _, h1, h2, .inr ⟨rfl, _, _, rfl⟩⟩)
    clear h1 h2 h0
    go_enter Tryd.func43, Tryd.ntmps43
    go_wp2_with fail
    go_end0
    exact ⟨rfl, H.out, Fr.refl _ _⟩
theorem rdleft_any {B : List UInt8} {s : RS} {R : Nat} (w : World) (h : RdAt w R B s) :
    Calls Tryd.prog 23 #[.pointer (some ⟨R, 0, none⟩)] w fun e w' => e = .returned (.int .i64 ((B.length : Int) - s.at_)) ∧ Fr (fun _ => False) w w' := by
  obtain ⟨⟨h0, h01, h02⟩, bv, ev, h1, ⟨a, c, rfl, -⟩, -⟩ := h
  have c0 : w.cell? ⟨R, 0, none⟩ = some (.slice a B.length c) := by rw [cell_of_row _ _ _ _ _ _ h1]; rfl
  have c1 : w.cell? ⟨R, 1, none⟩ = some (.int .i64 (s.at_ : Int)) := by rw [cell_of_row _ _ _ _ _ _ h1]; rfl
  clear h1
  go_enter Tryd.func23, Tryd.ntmps23
  go_wp2_with fail
  go_quiet (fail)
  go_wp2
  go_ret
  exact ⟨rfl, (Fr.refl _ _).drewN _⟩
/-- One byte more of a number. -/
theorem or_byte (n j x : Nat) (hj : j < 8) (hn : n < 256 ^ j) (hx : x < 256) : bits BinOp.or IntKind.u64 (n : Int) ((x * 2 ^ (8 * j) : Nat) : Int) = ((n + 2 ^ (8 * j) * x : Nat) : Int) := by
  have h8 : (256 : Nat) ^ j = 2 ^ (8 * j) := by rw [show 256 = 2 ^ 8 by decide, ← Nat.pow_mul]
  have hlt : 2 ^ (8 * j) * x + n < 2 ^ (8 * (j + 1)) := by
    rw [show 8 * (j + 1) = 8 * j + 8 by omega, Nat.pow_add]
    have : 2 ^ (8 * j) * x + 2 ^ (8 * j) ≤ 2 ^ (8 * j) * 2 ^ 8 := by rw [← Nat.mul_succ]; exact Nat.mul_le_mul_left _ (by omega)
    omega
  have h64 : (2 : Nat) ^ (8 * (j + 1)) ≤ 18446744073709551616 := by
    rw [show (18446744073709551616 : Nat) = 2 ^ 64 by decide]
    exact Nat.pow_le_pow_right (by omega) (by omega)
  rw [Nat.mul_comm x, u64_or_nat _ _ (by omega) (by omega), Nat.or_comm, ← Nat.two_pow_add_eq_or_of_lt (by omega), Nat.add_comm]
set_option maxRecDepth 100000 in
set_option maxHeartbeats 1600000 in
theorem rdnum_any {B : List UInt8} {s : RS} {R : Nat} (k : Nat) (hk : k ≤ 8) (pa : Nat → Addr) (w : World) (h : RdAt w R B s) (hE : Sents w pa) :
    Calls Tryd.prog 71 #[.pointer (some ⟨R, 0, none⟩), .int .i64 k] w fun e w' => e = .returned (.int .u64 ((rNum B k s).1 : Int)) ∧ RdAt w' R B (rNum B k s).2 ∧ Fr (fun k => k = R) w w' := by
  have h0 := h
  obtain ⟨⟨hR, hat, hB⟩, bv, ev, h1, h2, h3⟩ := h
  have c0 : w.cell? ⟨R, 0, none⟩ = some bv := by rw [cell_of_row _ _ _ _ _ _ h1]; rfl
  have c1 : w.cell? ⟨R, 1, none⟩ = some (.int .i64 (s.at_ : Int)) := by rw [cell_of_row _ _ _ _ _ _ h1]; rfl
  have c2 : w.cell? ⟨R, 2, none⟩ = some ev := by rw [cell_of_row _ _ _ _ _ _ h1]; rfl
  have f1 := frozen_of_row w _ 1 _ _ h1
  have e0 : w.cell? ⟨4, 0, none⟩ = some (.iface 175 (.pointer (some (pa 0)))) := hE 0 (by decide)
  have HL := hid (rdleft_any w h0)
  have HF := hid (fun (w2 : World) (hf : Fr (fun _ => False) w w2) => rdfail_any w2 (h0.frame hf) 175 (.pointer (some (pa 0))))
  have H0 := hid h0; have H1 := hid h1; have H2 := hid h2; have HR := hid hR
  have hkI : (k : Int) ≤ 8 := by omega
  clear h1 h2 h0 hR hE
  by_cases hc : s.ok = false ∨ B.length < s.at_ + k
  · have HN := hid (show rNum B k s = (0, s.fail) by unfold rNum; rw [if_pos hc])
    rw [HN.out]
    rcases h3 with ⟨hok, rfl⟩ | ⟨hok, tt, xx, rfl⟩
    · have hc2 : B.length < s.at_ + k := hc.elim (fun h => by rw [hok] at h; cases h) id
      clear hc
      go_enter Tryd.func71, Tryd.ntmps71
      go_wp2_with fail
      refine HL.out.mono ?_
      rintro e w2 ⟨rfl, hf2⟩
      have d2 := hf2.cell c2 not_false
      have ee := hf2.cell e0 not_false
      have HF2 := hid hf2
      clear hf2
      go_wp2_with fail
      refine (HF.out w2 HF2.out).mono ?_
      rintro e w3 ⟨rfl, hr, hf⟩
      have HRR := hid hr; have HFR := hid (HF2.out.trans hf (U := fun k => k = R) (fun _ _ h => h.elim) (fun _ _ h => h))
      clear hr hf
      go_wp2_with fail
      go_ret
      exact ⟨rfl, HRR.out, HFR.out⟩
    · clear hc
      go_enter Tryd.func71, Tryd.ntmps71
      go_wp2_with fail
      refine (HF.out w (Fr.refl _ _)).mono ?_
      rintro e w2 ⟨rfl, hr, hf⟩
      have HRR := hid hr; have HFR := hid hf
      clear hr hf
      go_wp2_with fail
      go_ret
      exact ⟨rfl, HRR.out, HFR.out⟩
  · have hok : s.ok = true := by
      cases hs : s.ok
      · exact absurd (.inl hs) hc
      · rfl
    have hle : s.at_ + k ≤ B.length := by
      by_cases h2 : B.length < s.at_ + k
      · exact absurd (.inr h2) hc
      · omega
    have HN := hid (show rNum B k s = (deN ((B.drop s.at_).take k), ⟨s.at_ + k, true⟩) by unfold rNum; rw [if_neg hc])
    rw [HN.out]
    obtain ⟨-, rfl⟩ : s.ok = true ∧ ev = .nilIface := by
      rcases h3 with h3 | ⟨h3, -⟩
      · exact h3
      · rw [hok] at h3; cases h3
    clear hc
    go_enter Tryd.func71, Tryd.ntmps71
    go_wp2_with fail
    refine HL.out.mono ?_
    rintro e w2 ⟨rfl, hf2⟩
    have d0 := hf2.cell c0 not_false
    have d1 := hf2.cell c1 not_false
    have g1 : w2.frozen? ⟨R, 1, none⟩ = false := frozen_of_row w2 _ 1 _ _ (hf2.heap H1.out not_false)
    have HF2 := hid hf2
    have HB := hid (H2.out.frame hf2 fun _ _ => not_false)
    obtain ⟨a, c, rfl, -⟩ := H2.out
    have hlI : (B.length : Int) ≤ 1073741824 := by omega
    clear hf2 HF
    go_wp2_with fail
    go_loopw [5, 22] (fun u i wr => ∃ j : Nat, j ≤ k ∧ i = .int .i64 j ∧ u = .int .u64 (deN ((B.drop s.at_).take j) : Nat) ∧ ∃ n, w2.drewN n = wr) (fun _ i _ => k - (intOf i).toNat)
    case atStart => exact ⟨0, Nat.zero_le _, rfl, by simp [deN], 0, rfl⟩
    case round =>
      obtain ⟨j, hj, rfl, rfl, n, rfl⟩ := hrel
      by_cases hlt : j < k
      · obtain ⟨a9, c9, e9, -, -, hb⟩ := HB.out
        obtain ⟨b, o, rfl, hb1, hb2⟩ := hb (s.at_ + j) (by omega)
        obtain ⟨rfl, -, rfl⟩ := by simpa using e9
        have hjI : (j : Int) < k := by omega
        have HX := hid (show (B.drop s.at_).take (j + 1) = (B.drop s.at_).take j ++ [B.getD (s.at_ + j) 0] by
          have h1 := take_snoc (B.drop s.at_) j 0 (by rw [List.length_drop]; omega)
          rw [h1]
          simp [List.getD])
        have HTL := hid (show ((B.drop s.at_).take j).length = j by rw [List.length_take, List.length_drop]; omega)
        have HLT := hid (deN_lt ((B.drop s.at_).take j))
        generalize B.getD (s.at_ + j) 0 = x at *
        have hx1 : IntKind.u64.wrap (x.toNat : Int) = (x.toNat : Int) := IntWalk.u64_in _ (by have := x.toNat_lt; omega)
        have h2j : x.toNat * 2 ^ (8 * j) < 18446744073709551616 := by
          have h1 : (2 : Nat) ^ (8 * (j + 1)) ≤ 2 ^ 64 := Nat.pow_le_pow_right (by omega) (by omega)
          have h2 : x.toNat * 2 ^ (8 * j) < 2 ^ 8 * 2 ^ (8 * j) := Nat.mul_lt_mul_of_pos_right (by have := x.toNat_lt; omega) (Nat.pow_pos (by decide))
          rw [← Nat.pow_add, show 8 + 8 * j = 8 * (j + 1) by omega] at h2
          have h3 : (2 : Nat) ^ 64 = 18446744073709551616 := by decide
          omega
        have hx2 : IntKind.u64.wrap ((x.toNat : Int) * 2 ^ (8 * j)) = ((x.toNat * 2 ^ (8 * j) : Nat) : Int) := by
          rw [show ((x.toNat : Int) * 2 ^ (8 * j)) = ((x.toNat * 2 ^ (8 * j) : Nat) : Int) by simp]
          exact IntWalk.u64_in _ (by omega)
        have HX1 := hid hx1; have HX2 := hid hx2
        have HOR := hid (or_byte (deN ((B.drop s.at_).take j)) j x.toNat (by omega) (by have := HLT.out; rw [HTL.out] at this; exact this) x.toNat_lt)
        have HDE := hid (show deN ((B.drop s.at_).take (j + 1)) = deN ((B.drop s.at_).take j) + 2 ^ (8 * j) * x.toNat by rw [HX.out, deN_snoc, HTL.out])
        clear hx1 hx2 h2j hb
        go_wp2_with fail
        go_quiet (fail)
        rw [HX1.out, HX2.out, HOR.out, ← HDE.out]
        go_wp2
        go_roundw
        case rel => exact ⟨j + 1, by omega, by go_num, rfl, n + nq, by simp [World.drewN, Nat.add_assoc]⟩
        case measure => simp [intOf]; omega
      · obtain rfl : j = k := by omega
        have hf := (Fr.refl (fun _ => False) w2).drewN n
        have c1' := hf.cell d1 not_false
        have HFZ := hid (HF2.out.trans' hf)
        obtain ⟨hn1, hn2⟩ := (set3 (HFZ.out.heap H1.out not_false)).1 (.int .i64 ((s.at_ : Int) + j))
        have f1' : (w2.drewN n).frozen? ⟨R, 1, none⟩ = false := frozen_of_row _ _ 1 _ _ (HFZ.out.heap H1.out not_false)
        have HN1 := hid hn1; have HN2 := hid hn2
        have HB9 := hid ((HB.out.frame hf fun _ _ => not_false).frame hn2 fun _ h => Nat.ne_of_lt h)
        have hsI : (s.at_ : Int) ≤ 1073741824 := by omega
        clear hn1 hn2 hf
        go_wp2_with fail
        go_ret
        refine ⟨rfl, ⟨⟨HR.out, hle, hB⟩, _, _, ?_, HB9.out, .inl ⟨rfl, rfl⟩⟩, HFZ.out.trans HN2.out (fun _ _ h => h.elim) (fun _ _ h => h)⟩
        simpa using HN1.out
end
section
open Go.RowKit

set_option maxRecDepth 100000 in
set_option maxHeartbeats 1600000 in
theorem tdeep_any : ∀ (N : Nat) (l : List Nd), cntL l < N → cntL l ≤ 4611686018427387904 → ∀ (D : Nat → Prop) (w : World) (v : Value), NL D w l v →
    Calls Tryd.prog 65 #[v] w fun e w' => e = .returned (.int .i64 (depL l)) ∧ Fr (fun _ => False) w w' := by
  intro N
  induction N with
  | zero =>
    intro l hN hM D w v h
    omega
  | succ N ih =>
    intro l hN hM D w v h
    have hll := len_le_cnt l
    obtain ⟨a, cap, us, rfl, hc, hm, hn, hb, hi⟩ := h
    have hlI : (l.length : Int) ≤ 4611686018427387904 := by omega
    have HB := hid hb; have HI := hid hi; have HM := hid hM; have HN := hid hN
    clear hb hi hM hN hn hll hc hm
    go_enter Tryd.func65, Tryd.ntmps65
    go_wp2
    go_loopw [3, 8] (fun n i wr => ∃ k : Nat, k ≤ l.length ∧ i = .int .i64 k ∧ n = .int .i64 (depL (l.take k)) ∧ Fr (fun _ => False) w wr) (fun _ i _ => l.length - (intOf i).toNat)
    case atStart => exact ⟨0, Nat.zero_le _, rfl, by simp [depL], Fr.refl _ _⟩
    case round =>
      obtain ⟨k, hk, rfl, rfl, hf⟩ := hrel
      by_cases hlt : k < l.length
      · obtain ⟨b, o, y, va, c1, a', c', rfl, -, hy, hv, e0, e1, e2, e3, e4, e5, e6, e7⟩ := NL.elem HB.out HI.out k hlt
        replace e0 := hf.cell e0 not_false
        replace e1 := hf.cell e1 not_false
        replace e2 := hf.cell e2 not_false
        replace e3 := hf.cell e3 not_false
        replace e4 := hf.cell e4 not_false
        replace e5 := hf.cell e5 not_false
        replace e6 := hf.cell e6 not_false
        replace e7 := hf.cell e7 not_false
        have t1 := cntL_take l k y hy
        have t2 := cntL_mem hy
        have t3 := cntL_take_le l (k + 1)
        have t4 := Nd.cnt_eq y
        obtain ⟨va2, vl, he, -, hyl⟩ := hv.open
        obtain rfl : vl = .slice a' y.l.length c' := by simpa using (congrArg (fun q => q.getD 7 undef) he).symm
        have hcl := fun o' => ih y.l (by have := HN.out; omega) (by have := HM.out; omega) D (wr.alloc o') _ (hyl.frame (hf.alloc o') fun _ _ => not_false)
        have d1 := depL_take l k y hy
        have d2 := Nd.dep_eq y
        have d3 := depL_le' y.l
        have d4 := depL_le' (l.take k)
        have d5 := cntL_take_le l k
        have hdy : (depL y.l : Int) ≤ 4611686018427387904 := by have := HM.out; omega
        have hdk : (depL (l.take k) : Int) ≤ 4611686018427387904 := by have := HM.out; omega
        have hmx : (depL (l.take (k + 1)) : Int) = max (depL (l.take k) : Int) (1 + depL y.l) := by omega
        have HMX := hid hmx; have HF := hid hf; have HC := hid hcl
        clear d1 d2 d3 d4 d5 hmx
        clear t1 t2 t3 t4 hv hyl he hcl hf hy
        go_wp2_with fail
        refine (HC.out _).mono ?_
        rintro e w2 ⟨rfl, hf2⟩
        have HF2 := hid ((HF.out.alloc _).trans' hf2); clear hf2
        generalize depL (l.take k) = p at *
        generalize depL y.l = q at *
        by_cases hpq : (p : Int) ≤ 1 + q
        · go_wp2
          all_goals
            go_roundw
            case rel => exact ⟨k + 1, by omega, by go_num, int_eq (by rw [HMX.out]; omega), HF2.out⟩
            case measure => simp [intOf]; omega
        · go_wp2
          all_goals
            go_roundw
            case rel => exact ⟨k + 1, by omega, by go_num, int_eq (by rw [HMX.out]; omega), HF2.out⟩
            case measure => simp [intOf]; omega
      · obtain rfl : k = l.length := by omega
        go_wp2
        go_ret
        exact ⟨ret_int (by rw [List.take_length]), hf⟩
set_option maxRecDepth 100000 in
set_option maxHeartbeats 1600000 in
theorem cnt_any : ∀ (N : Nat) (l : List Nd), cntL l < N → cntL l ≤ 4611686018427387904 → ∀ (n : Nat), n ≤ 4096 → ∀ (D : Nat → Prop) (w : World) (v : Value), NL D w l v →
    Calls Tryd.prog 64 #[v, .int .i64 n] w fun e w' => e = .returned (.int .i64 (min (n + cntL l) 4097 : Nat)) ∧ Fr (fun _ => False) w w' := by
  intro N
  induction N with
  | zero =>
    intro l hN hM n hn0 D w v h
    omega
  | succ N ih =>
    intro l hN hM n hn0 D w v h
    have hll := len_le_cnt l
    obtain ⟨a, cap, us, rfl, hc, hm, hn, hb, hi⟩ := h
    have hlI : (l.length : Int) ≤ 4611686018427387904 := by omega
    have HB := hid hb; have HI := hid hi; have HM := hid hM; have HN := hid hN
    clear hb hi hM hN hn hll hc hm
    go_enter Tryd.func64, Tryd.ntmps64
    go_wp2
    go_loopw [1, 9] (fun m i wr => ∃ k : Nat, k ≤ l.length ∧ i = .int .i64 k ∧ m = .int .i64 (n + cntL (l.take k) : Nat) ∧ n + cntL (l.take k) ≤ 4096 ∧ Fr (fun _ => False) w wr) (fun _ i _ => l.length - (intOf i).toNat)
    case atStart => exact ⟨0, Nat.zero_le _, rfl, by simp [cntL], by simp [cntL]; exact hn0, Fr.refl _ _⟩
    case round =>
      obtain ⟨k, hk, rfl, rfl, hb4, hf⟩ := hrel
      by_cases hlt : k < l.length
      · obtain ⟨b, o, y, va, c1, a', c', rfl, -, hy, hv, e0, e1, e2, e3, e4, e5, e6, e7⟩ := NL.elem HB.out HI.out k hlt
        replace e0 := hf.cell e0 not_false
        replace e1 := hf.cell e1 not_false
        replace e2 := hf.cell e2 not_false
        replace e3 := hf.cell e3 not_false
        replace e4 := hf.cell e4 not_false
        replace e5 := hf.cell e5 not_false
        replace e6 := hf.cell e6 not_false
        replace e7 := hf.cell e7 not_false
        have t1 := cntL_take l k y hy
        have t2 := cntL_mem hy
        have t3 := cntL_take_le l (k + 1)
        have t4 := Nd.cnt_eq y
        obtain ⟨va2, vl, he, -, hyl⟩ := hv.open
        obtain rfl : vl = .slice a' y.l.length c' := by simpa using (congrArg (fun q => q.getD 7 undef) he).symm
        obtain ⟨p, hp⟩ : ∃ p, n + cntL (l.take k) = p := ⟨_, rfl⟩
        rw [hp] at hb4
        rw [hp]
        have hpI : (p : Int) ≤ 4096 := by omega
        have htk := cntL_take_le l (k + 1)
        have HF := hid hf
        by_cases h5 : (4096 : Int) < (p : Int) + 1
        · have hres := hid (show (p : Int) + 1 = (min (n + cntL l) 4097 : Nat) by omega)
          clear t1 t2 t3 t4 hv hyl he hf hy htk hp
          go_wp2
          go_ret
          exact ⟨ret_int hres.out, HF.out.alloc _⟩
        · obtain ⟨p1, hp1⟩ : ∃ p1 : Nat, (p : Int) + 1 = p1 := ⟨p + 1, by omega⟩
          have hcl := fun o' => ih y.l (by have := HN.out; omega) (by have := HM.out; omega) (p + 1) (by omega) D (wr.alloc o') _ (hyl.frame (hf.alloc o') fun _ _ => not_false)
          obtain ⟨c9, hc9⟩ : ∃ c9, cntL y.l = c9 := ⟨_, rfl⟩
          have hx1 : n + cntL (l.take (k + 1)) = p + 1 + c9 := by omega
          have hx2 : p + 1 + c9 ≤ n + cntL l := by omega
          rw [hc9] at hcl
          have HC := hid hcl; have HX1 := hid hx1; have HX2 := hid hx2
          clear t1 t2 t3 t4 hv hyl he hcl hf hy htk hp hp1 hc9 hx1 hx2
          go_wp2_with fail
          refine (HC.out _).mono ?_
          rintro e w2 ⟨rfl, hf2⟩
          have HF2 := hid ((HF.out.alloc _).trans' hf2)
          clear hf2
          by_cases h6 : p + 1 + c9 ≤ 4096
          · have h7 : (min (p + 1 + c9) 4097 : Nat) = p + 1 + c9 := by omega
            rw [h7]
            have h8 : ¬ (4096 : Int) < ((p + 1 + c9 : Nat) : Int) := by omega
            obtain ⟨r, hr⟩ : ∃ r, p + 1 + c9 = r := ⟨_, rfl⟩
            rw [hr] at h8 ⊢
            have HRR := hid hr
            clear h6 h7 hr
            go_wp2_with fail
            go_roundw
            case rel => exact ⟨k + 1, by omega, by go_num, int_eq (by have := HX1.out; have := HRR.out; omega), by have := HX1.out; have := HRR.out; omega, HF2.out⟩
            case measure => simp [intOf]; omega
          · have h7 : (min (p + 1 + c9) 4097 : Nat) = 4097 := by omega
            rw [h7]
            have hres := hid (show (4097 : Int) = (min (n + cntL l) 4097 : Nat) by have := HX2.out; omega)
            clear h6 h7
            go_wp2_with fail
            go_ret
            exact ⟨ret_int hres.out, HF2.out⟩
      · obtain rfl : k = l.length := by omega
        go_wp2
        go_ret
        exact ⟨ret_int (by rw [List.take_length] at *; omega), hf⟩
end
section
open Go.RowKit

def pLoops (op : Int) : Bool := op == 42 || op == 43 || op == 44
theorem loops_any (op : Int) (w : World) : Calls Tryd.prog 86 #[.int .i64 op] w fun e w' => e = .returned (.bool (pLoops op)) ∧ w = w' := by
  have HP := hid (show pLoops op = (op == 42 || op == 43 || op == 44) from rfl)
  by_cases h1 : op = 42
  · subst h1
    go_enter Tryd.func86, Tryd.ntmps86
    go_wp2
    go_ret
    exact ⟨rfl, rfl⟩
  have q1 : (op == 42) = false := by simpa using h1
  by_cases h2 : op = 43
  · subst h2
    go_enter Tryd.func86, Tryd.ntmps86
    go_wp2
    go_ret
    exact ⟨rfl, rfl⟩
  have q2 : (op == 43) = false := by simpa using h2
  by_cases h3 : op = 44
  · subst h3
    go_enter Tryd.func86, Tryd.ntmps86
    go_wp2
    go_ret
    exact ⟨rfl, rfl⟩
  have q3 : (op == 44) = false := by simpa using h3
  have HR := hid (show pLoops op = false by rw [HP.out, q1, q2, q3]; rfl)
  clear h1 h2 h3
  go_enter Tryd.func86, Tryd.ntmps86
  go_wp2
  go_ret
  exact ⟨ret_bool HR.out.symm, rfl⟩
def pNamed (op : Int) : Bool × Bool := if op = 2 ∨ op = 24 ∨ op = 42 ∨ op = 43 then (true, false) else if op = 50 then (true, true) else (false, false)
theorem named_any (op : Int) (w : World) : Calls Tryd.prog 101 #[.int .i64 op] w fun e w' => e = .returned (.tuple #[.bool (pNamed op).1, .bool (pNamed op).2]) ∧ w = w' := by
  by_cases h0 : op = 2
  · subst h0
    go_enter Tryd.func101, Tryd.ntmps101
    go_wp2
    go_ret2
    exact ⟨rfl, rfl⟩
  have q0 : (op == 2) = false := by simpa using h0
  by_cases h1 : op = 24
  · subst h1
    go_enter Tryd.func101, Tryd.ntmps101
    go_wp2
    go_ret2
    exact ⟨rfl, rfl⟩
  have q1 : (op == 24) = false := by simpa using h1
  by_cases h2 : op = 42
  · subst h2
    go_enter Tryd.func101, Tryd.ntmps101
    go_wp2
    go_ret2
    exact ⟨rfl, rfl⟩
  have q2 : (op == 42) = false := by simpa using h2
  by_cases h3 : op = 43
  · subst h3
    go_enter Tryd.func101, Tryd.ntmps101
    go_wp2
    go_ret2
    exact ⟨rfl, rfl⟩
  have q3 : (op == 43) = false := by simpa using h3
  by_cases h4 : op = 50
  · subst h4
    go_enter Tryd.func101, Tryd.ntmps101
    go_wp2
    go_ret2
    exact ⟨rfl, rfl⟩
  have q4 : (op == 50) = false := by simpa using h4
  have HP := hid (show pNamed op = (false, false) by unfold pNamed; rw [if_neg (by omega), if_neg (by omega)])
  clear h0 h1 h2 h3 h4
  go_enter Tryd.func101, Tryd.ntmps101
  go_wp2
  go_ret2
  exact ⟨by rw [HP.out]; rfl, rfl⟩
def isExpr (op : Int) : Bool := decide (1 ≤ op) && decide (op ≤ 29) && op != 26
def pStands (op role : Int) : Bool :=
  if role = 0 then isExpr op else if role = 1 then isExpr op || op == 26 else if role = 2 then op == 2 || op == 22 || op == 20 else if role = 3 then op == 2 else if role = 4 then op == 2 || op == 26 else
  if role = 5 then op == 25 else if role = 6 then op == 52 else if role = 8 then op == 50 else decide (40 ≤ op) && decide (op ≤ 51) && op != 50

set_option maxRecDepth 100000 in
set_option maxHeartbeats 6400000 in
theorem stands_any (x : Nd) (role : Int) (hr0 : 0 ≤ role) (hr8 : role ≤ 8) (va la : Value) (w : World) : Calls Tryd.prog 99 #[.agg #[.int .i64 x.op, .int .i64 x.ln, .string x.s, .int .i64 x.v.k, .int .i64 x.v.n, .string x.v.s, va, la], .int .i64 role] w fun e w' => e = .returned (.bool (pStands x.op role)) ∧ Fr (fun _ => False) w w' := by
  generalize x.op = op
  have HF := hid ((Fr.refl (fun _ => False) w).alloc (.cells #[.int .i64 op, .int .i64 x.ln, .string x.s, .int .i64 x.v.k, .int .i64 x.v.n, .string x.v.s, va, la] 36))
  have hg := heap_alloc_new w (.cells #[.int .i64 op, .int .i64 x.ln, .string x.s, .int .i64 x.v.k, .int .i64 x.v.n, .string x.v.s, va, la] 36)
  have d0 : (w.alloc (.cells #[.int .i64 op, .int .i64 x.ln, .string x.s, .int .i64 x.v.k, .int .i64 x.v.n, .string x.v.s, va, la] 36)).cell? ⟨w.heap.size, 0, none⟩ = some (.int .i64 op) := by rw [cell_of_row _ _ 0 _ _ _ hg]; rfl
  clear hg
  go_enter Tryd.func99, Tryd.ntmps99
  go_upto_region 1 with fail
  go_cut [5] from 6 to 18 (fun c wx => c = .bool (isExpr op) ∧ (w.alloc (.cells #[.int .i64 op, .int .i64 x.ln, .string x.s, .int .i64 x.v.k, .int .i64 x.v.n, .string x.v.s, va, la] 36)) = wx)
  case first =>
    by_cases h1 : 1 ≤ op
    · by_cases h2 : op ≤ 29
      · by_cases h3 : op = 26
        · subst h3
          go_wp2_with fail
          go_meet
          exact ⟨rfl, rfl⟩
        · have q3 : (op != 26) = true := by simpa using h3
          have HE := hid (show isExpr op = true by unfold isExpr; rw [decide_eq_true h1, decide_eq_true h2, q3]; rfl)
          clear h3
          go_wp2_with fail
          go_meet
          exact ⟨by rw [HE.out], rfl⟩
      · have HE := hid (show isExpr op = false by unfold isExpr; rw [decide_eq_true h1, decide_eq_false h2]; rfl)
        go_wp2_with fail
        go_meet
        exact ⟨by rw [HE.out], rfl⟩
    · have HE := hid (show isExpr op = false by unfold isExpr; rw [decide_eq_false h1]; rfl)
      go_wp2_with fail
      go_meet
      exact ⟨by rw [HE.out], rfl⟩
  case rest =>
  obtain ⟨rfl, rfl⟩ := hcut
  have hrole : role = 0 ∨ role = 1 ∨ role = 2 ∨ role = 3 ∨ role = 4 ∨ role = 5 ∨ role = 6 ∨ role = 7 ∨ role = 8 := by omega
  rcases hrole with rfl | rfl | rfl | rfl | rfl | rfl | rfl | rfl | rfl
  · go_wp2_with fail
    go_ret
    exact ⟨rfl, HF.out⟩
  · have HE := hid (show pStands op 1 = (isExpr op || op == 26) from rfl)
    generalize isExpr op = b at *
    cases b
    · go_wp2_with fail
      go_ret
      exact ⟨ret_bool HE.out.symm, HF.out⟩
    · go_wp2_with fail
      go_ret
      exact ⟨ret_bool HE.out.symm, HF.out⟩
  · have HE := hid (show pStands op 2 = (op == 2 || op == 22 || op == 20) from rfl)
    by_cases h1 : op = 2
    · subst h1
      go_wp2_with fail
      go_ret
      exact ⟨rfl, HF.out⟩
    have q1 : (op == 2) = false := by simpa using h1
    by_cases h2 : op = 22
    · subst h2
      go_wp2_with fail
      go_ret
      exact ⟨rfl, HF.out⟩
    have q2 : (op == 22) = false := by simpa using h2
    have HE2 := hid (show pStands op 2 = (op == 20) by rw [HE.out, q1, q2]; rfl)
    clear h1 h2 HE
    go_wp2_with fail
    go_ret
    exact ⟨ret_bool HE2.out.symm, HF.out⟩
  · go_wp2_with fail
    go_ret
    exact ⟨rfl, HF.out⟩
  · have HE := hid (show pStands op 4 = (op == 2 || op == 26) from rfl)
    by_cases h1 : op = 2
    · subst h1
      go_wp2_with fail
      go_ret
      exact ⟨rfl, HF.out⟩
    have q1 : (op == 2) = false := by simpa using h1
    have HE2 := hid (show pStands op 4 = (op == 26) by rw [HE.out, q1]; rfl)
    clear h1 HE
    go_wp2_with fail
    go_ret
    exact ⟨ret_bool HE2.out.symm, HF.out⟩
  · go_wp2_with fail
    go_ret
    exact ⟨rfl, HF.out⟩
  · go_wp2_with fail
    go_ret
    exact ⟨rfl, HF.out⟩
  · have HE := hid (show pStands op 7 = (decide (40 ≤ op) && decide (op ≤ 51) && op != 50) from rfl)
    by_cases h1 : 40 ≤ op
    · by_cases h2 : op ≤ 51
      · have HE2 := hid (show pStands op 7 = (op != 50) by rw [HE.out, decide_eq_true h1, decide_eq_true h2]; rfl)
        clear HE
        go_wp2_with fail
        go_ret
        exact ⟨ret_bool HE2.out.symm, HF.out⟩
      · have HE2 := hid (show pStands op 7 = false by rw [HE.out, decide_eq_true h1, decide_eq_false h2]; rfl)
        clear HE
        go_wp2_with fail
        go_ret
        exact ⟨ret_bool HE2.out.symm, HF.out⟩
    · have HE2 := hid (show pStands op 7 = false by rw [HE.out, decide_eq_false h1]; rfl)
      clear HE
      go_wp2_with fail
      go_ret
      exact ⟨ret_bool HE2.out.symm, HF.out⟩
  · go_wp2_with fail
    go_ret
    exact ⟨rfl, HF.out⟩
end
section
open Go.RowKit

/-- Roles in a row. -/
def rV (l : List Int) : List Value := l.map fun r => .int .i64 r
theorem Tryd.info_i : (Tryd.prog.info? 3).map (fun i => (i.zero, i.size, i.bytes)) = some (some (.int .i64 0), 1, 8) := by kernel_rfl
set_option maxRecDepth 100000 in
set_option maxHeartbeats 1600000 in
theorem all_any (r : Int) (n : Nat) (hn : n ≤ 1073741824) (w : World) : Calls Tryd.prog 103 #[.int .i64 r, .int .i64 n] w fun e w' => ∃ v, e = .returned v ∧ w'.ownsRow w.heap.size 3 1 v n (rV (List.replicate n r)) ∧ Fr (fun _ => False) w w' := by
  have hnI : (n : Int) ≤ 1073741824 := by omega
  have HN := hid hn
  clear hn
  go_enter Tryd.func103, Tryd.ntmps103
  go_wp2_with fail
  go_loopw [5, 7] (fun v i wr => ∃ k : Nat, k ≤ n ∧ i = .int .i64 k ∧ wr.ownsRow w.heap.size 3 1 v k (rV (List.replicate k r)) ∧ Fr (fun _ => False) w wr) (fun _ i _ => n - (intOf i).toNat)
  case atStart => exact ⟨0, Nat.zero_le _, rfl, World.ownsRow_nil _ _ _ _, Fr.refl _ _⟩
  case round =>
    obtain ⟨k, hk, rfl, ho, hf⟩ := hrel
    by_cases hlt : k < n
    · have hlt' : (k : Int) < n := by omega
      have hfa := hf.alloc (.cells #[.int .i64 r] 3)
      have hcell := cell_new1 wr (.int .i64 r) 3 (0, 0)
      have HOW := hid (World.ownsRow.alloc ho (.cells #[.int .i64 r] 3))
      have HFA := hid hfa; have HCE := hid hcell
      have HK := hid (show k + 1 ≤ 1099511627776 by have := HN.out; omega)
      have HLT := hid (fun q (hq : Value.ownBlock _ = some q) => (ho.lt q hq).1)
      obtain ⟨va, vc, rfl, -⟩ := own_len ho
      clear ho hf hfa hcell
      go_wp2_with (at_builtin; go_must (refine wpList_append1 rfl (.tmp 9) (.tmp 11) 31 rfl 3 (.int .i64 0) 8 Tryd.underlying31 Tryd.info_i rfl _ rfl w.heap.size k (rV (List.replicate k r)) HOW.out wr.heap.size 1 (.int .i64 r) rfl HCE.out rfl HK.out (by decide) HFA.out.size ?_))
      intro g cap w3 ho3 hf3 _
      have HF3 := hid (HFA.out.trans hf3 (U := fun _ => False) (fun _ _ h => h) (fun q hq e => by have := HLT.out q e.symm; omega))
      have HO3 := hid (show w3.ownsRow w.heap.size 3 1 (.slice (some ⟨g, 0, none⟩) (k + 1) cap) (k + 1) (rV (List.replicate (k + 1) r)) by
        have : rV (List.replicate (k + 1) r) = rV (List.replicate k r) ++ [.int .i64 r] := by rw [List.replicate_succ']; simp [rV]
        rw [this]; exact ho3)
      clear ho3 hf3
      go_wp2_with fail
      go_roundw
      case rel => exact ⟨k + 1, by omega, by go_num, HO3.out, HF3.out⟩
      case measure => simp [intOf]; omega
    · obtain rfl : k = n := by omega
      go_wp2_with fail
      go_ret
      exact ⟨_, rfl, ho, hf⟩
end
end Go.Proofs.YtbegahbagnflnaaDoor
