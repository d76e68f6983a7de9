/- TreeBounds: the law's walk. -/
import Derived.Test.YteihmagldhmjgaaDoorTreeBoundsL
import Derived.Test.YteihmagldhmjgaaDoorTreeLoops
namespace Go.Proofs.YteihmagldhmjgaaDoor
open Go.RowKit

set_option maxRecDepth 100000 in
set_option maxHeartbeats 6400000 in
theorem bounds_deep (pa : Nat → Addr) (n : Int) (b0 : -9223372036854775808 ≤ n) (c0 : n ≤ 9223372036854775807) (w : World) (hE : Sent17 w pa) (hg : 7 ≤ w.heap.size) :
    Calls Tryd.prog 5 #[.int .i64 n, .bool true] w fun e w' => e = .returned (.bool true) ∧ Fr (fun _ => False) w w' := by
  have HFI := hid (first_any pa w hE hg)
  have HE := hid hE; have HG := hid hg; have HB := hid b0; have HC := hid c0
  obtain ⟨m, hm⟩ : ∃ m : Nat, n % 60 = m := ⟨(n % 60).toNat, by have := Int.emod_nonneg n (show (60 : Int) ≠ 0 by omega); omega⟩
  have hm6 : m < 60 := by have := Int.emod_lt_of_pos n (show (0 : Int) < 60 by omega); omega
  have HM := hid hm; have HM6 := hid hm6
  have hm6I : (m : Int) < 60 := by omega
  clear hE hg b0 c0 hm hm6
  go_enter Tryd.func5, Tryd.ntmps5
  go_wp2_with fail
  refine HFI.out.mono ?_
  rintro e w1 ⟨rfl, hf1⟩
  have HF1 := hid hf1
  clear hf1
  go_wp2_with fail
  refine (number_any n 60 w1 (by omega) (by omega) HB.out HC.out).mono ?_
  rintro e w1 ⟨rfl, rfl⟩
  rw [HM.out]
  have hf0 := HF1.out.alloc (.cells #[.int .i64 1, .int .i64 0, .string ⟨#[]⟩, .int .i64 0, .int .i64 0, .string ⟨#[]⟩, .slice none 0 0, .slice none 0 0] 29)
  have hgn := heap_alloc_new w1 (.cells #[.int .i64 1, .int .i64 0, .string ⟨#[]⟩, .int .i64 0, .int .i64 0, .string ⟨#[]⟩, .slice none 0 0, .slice none 0 0] 29)
  have HS0 := hid (show w1.heap.size < (w1.alloc (.cells #[.int .i64 1, .int .i64 0, .string ⟨#[]⟩, .int .i64 0, .int .i64 0, .string ⟨#[]⟩, .slice none 0 0, .slice none 0 0] 29)).heap.size by simp)
  go_upto_region 8 with fail
  generalize hW0 : w1.alloc (.cells #[.int .i64 1, .int .i64 0, .string ⟨#[]⟩, .int .i64 0, .int .i64 0, .string ⟨#[]⟩, .slice none 0 0, .slice none 0 0] 29) = W0 at *
  obtain ⟨Bn, hBn⟩ : ∃ B, w1.heap.size = B := ⟨_, rfl⟩
  rw [hBn] at hgn HS0 ⊢
  have HBW := hid (show w.heap.size ≤ Bn by rw [← hBn]; exact HF1.out.size)
  clear hW0 hBn
  have HF0 := hid hf0; have HGN := hid hgn
  clear hf0 hgn
  go_loopw [7] (fun i wr => ∃ (k : Nat) (op : Int) (ll : List Nd) (a2 : Option Addr) (c2 : Nat), k ≤ m ∧ i = .int .i64 ((k + 1 : Nat) : Int) ∧ Hid (notN k = nd0 op ll) ∧ Hid (wr.heap[Bn]? = some (.cells (nU op (.slice a2 ll.length c2)) 29)) ∧ Hid (NL (fun b => b ≠ Bn) wr ll (.slice a2 ll.length c2)) ∧ Hid (Fr (fun b => b = Bn) W0 wr)) (fun i _ => m + 1 - (intOf i).toNat)
  case atStart => exact ⟨0, 1, [], none, 0, Nat.zero_le _, rfl, hid rfl, hid HGN.out, hid (NL.nil _ _), hid (Fr.refl _ _)⟩
  case round =>
    obtain ⟨k, op, ll, a2, c2, hk, rfl, HT, HR, HN, HFR⟩ := hrel
    have HSR := hid (show Bn < wr.heap.size by have := HFR.out.size; have := HS0.out; omega)
    by_cases hlt : k < m
    · have hlt' : ((k + 1 : Nat) : Int) < (m : Int) + 1 := by omega
      have hfa := (Fr.refl (fun _ => False) wr).alloc (.cells #[.int .i64 op, .int .i64 0, .string ⟨#[]⟩, .int .i64 0, .int .i64 0, .string ⟨#[]⟩, .slice none 0 0, (.slice a2 ll.length c2)] 29)
      have hgz := hfa.heap HR.out not_false
      have z0 : (wr.alloc (.cells #[.int .i64 op, .int .i64 0, .string ⟨#[]⟩, .int .i64 0, .int .i64 0, .string ⟨#[]⟩, .slice none 0 0, (.slice a2 ll.length c2)] 29)).cell? ⟨Bn, 0, none⟩ = some (.int .i64 op) := by rw [cell_of_row _ _ 0 _ _ _ hgz]; rfl
      have z1 : (wr.alloc (.cells #[.int .i64 op, .int .i64 0, .string ⟨#[]⟩, .int .i64 0, .int .i64 0, .string ⟨#[]⟩, .slice none 0 0, (.slice a2 ll.length c2)] 29)).cell? ⟨Bn, 1, none⟩ = some (.int .i64 0) := by rw [cell_of_row _ _ 1 _ _ _ hgz]; rfl
      have z2 : (wr.alloc (.cells #[.int .i64 op, .int .i64 0, .string ⟨#[]⟩, .int .i64 0, .int .i64 0, .string ⟨#[]⟩, .slice none 0 0, (.slice a2 ll.length c2)] 29)).cell? ⟨Bn, 2, none⟩ = some (.string ⟨#[]⟩) := by rw [cell_of_row _ _ 2 _ _ _ hgz]; rfl
      have z3 : (wr.alloc (.cells #[.int .i64 op, .int .i64 0, .string ⟨#[]⟩, .int .i64 0, .int .i64 0, .string ⟨#[]⟩, .slice none 0 0, (.slice a2 ll.length c2)] 29)).cell? ⟨Bn, 3, none⟩ = some (.int .i64 0) := by rw [cell_of_row _ _ 3 _ _ _ hgz]; rfl
      have z4 : (wr.alloc (.cells #[.int .i64 op, .int .i64 0, .string ⟨#[]⟩, .int .i64 0, .int .i64 0, .string ⟨#[]⟩, .slice none 0 0, (.slice a2 ll.length c2)] 29)).cell? ⟨Bn, 4, none⟩ = some (.int .i64 0) := by rw [cell_of_row _ _ 4 _ _ _ hgz]; rfl
      have z5 : (wr.alloc (.cells #[.int .i64 op, .int .i64 0, .string ⟨#[]⟩, .int .i64 0, .int .i64 0, .string ⟨#[]⟩, .slice none 0 0, (.slice a2 ll.length c2)] 29)).cell? ⟨Bn, 5, none⟩ = some (.string ⟨#[]⟩) := by rw [cell_of_row _ _ 5 _ _ _ hgz]; rfl
      have z6 : (wr.alloc (.cells #[.int .i64 op, .int .i64 0, .string ⟨#[]⟩, .int .i64 0, .int .i64 0, .string ⟨#[]⟩, .slice none 0 0, (.slice a2 ll.length c2)] 29)).cell? ⟨Bn, 6, none⟩ = some (.slice none 0 0) := by rw [cell_of_row _ _ 6 _ _ _ hgz]; rfl
      have z7 : (wr.alloc (.cells #[.int .i64 op, .int .i64 0, .string ⟨#[]⟩, .int .i64 0, .int .i64 0, .string ⟨#[]⟩, .slice none 0 0, (.slice a2 ll.length c2)] 29)).cell? ⟨Bn, 7, none⟩ = some ((.slice a2 ll.length c2)) := by rw [cell_of_row _ _ 7 _ _ _ hgz]; rfl
      have d0 : wr.cell? ⟨Bn, 0, none⟩ = some (.int .i64 op) := by rw [cell_of_row _ _ 0 _ _ _ HR.out]; rfl
      have d1 : wr.cell? ⟨Bn, 1, none⟩ = some (.int .i64 0) := by rw [cell_of_row _ _ 1 _ _ _ HR.out]; rfl
      have d2 : wr.cell? ⟨Bn, 2, none⟩ = some (.string ⟨#[]⟩) := by rw [cell_of_row _ _ 2 _ _ _ HR.out]; rfl
      have d3 : wr.cell? ⟨Bn, 3, none⟩ = some (.int .i64 0) := by rw [cell_of_row _ _ 3 _ _ _ HR.out]; rfl
      have d4 : wr.cell? ⟨Bn, 4, none⟩ = some (.int .i64 0) := by rw [cell_of_row _ _ 4 _ _ _ HR.out]; rfl
      have d5 : wr.cell? ⟨Bn, 5, none⟩ = some (.string ⟨#[]⟩) := by rw [cell_of_row _ _ 5 _ _ _ HR.out]; rfl
      have d6 : wr.cell? ⟨Bn, 6, none⟩ = some (.slice none 0 0) := by rw [cell_of_row _ _ 6 _ _ _ HR.out]; rfl
      have d7 : wr.cell? ⟨Bn, 7, none⟩ = some ((.slice a2 ll.length c2)) := by rw [cell_of_row _ _ 7 _ _ _ HR.out]; rfl
      have fz : ∀ i, (wr.alloc (.cells #[.int .i64 op, .int .i64 0, .string ⟨#[]⟩, .int .i64 0, .int .i64 0, .string ⟨#[]⟩, .slice none 0 0, (.slice a2 ll.length c2)] 29)).frozen? ⟨Bn, i, none⟩ = false := fun i => frozen_of_row _ _ i _ _ hgz
      have hn9 : NL (fun b => b ≠ Bn) (wr.alloc (.cells #[.int .i64 op, .int .i64 0, .string ⟨#[]⟩, .int .i64 0, .int .i64 0, .string ⟨#[]⟩, .slice none 0 0, (.slice a2 ll.length c2)] 29)) [nd0 op ll] (.slice (some ⟨wr.heap.size, 0, none⟩) 1 1) := NL.lit1 (heap_alloc_new wr (.cells #[.int .i64 op, .int .i64 0, .string ⟨#[]⟩, .int .i64 0, .int .i64 0, .string ⟨#[]⟩, .slice none 0 0, (.slice a2 ll.length c2)] 29)) (by have := HSR.out; show wr.heap.size ≠ Bn; omega) (nd0_in op (HN.out.frame hfa fun _ _ => not_false))
      have hf9 : Fr (fun q => q = Bn) (wr.alloc (.cells #[.int .i64 op, .int .i64 0, .string ⟨#[]⟩, .int .i64 0, .int .i64 0, .string ⟨#[]⟩, .slice none 0 0, (.slice a2 ll.length c2)] 29)) (((((((((wr.alloc (.cells #[.int .i64 op, .int .i64 0, .string ⟨#[]⟩, .int .i64 0, .int .i64 0, .string ⟨#[]⟩, .slice none 0 0, (.slice a2 ll.length c2)] 29)).setCell ⟨Bn, 0, none⟩ (.int .i64 4)).setCell ⟨Bn, 1, none⟩ (.int .i64 0)).setCell ⟨Bn, 2, none⟩ (.string ⟨#[]⟩)).setCell ⟨Bn, 3, none⟩ (.int .i64 0)).setCell ⟨Bn, 4, none⟩ (.int .i64 0)).setCell ⟨Bn, 5, none⟩ (.string ⟨#[]⟩)).setCell ⟨Bn, 6, none⟩ (.slice none 0 0)).setCell ⟨Bn, 7, none⟩ ((.slice (some ⟨wr.heap.size, 0, none⟩) 1 1))) := (((((((((Fr.refl (fun q => q = Bn) (wr.alloc (.cells #[.int .i64 op, .int .i64 0, .string ⟨#[]⟩, .int .i64 0, .int .i64 0, .string ⟨#[]⟩, .slice none 0 0, (.slice a2 ll.length c2)] 29))).setCell (p := ⟨Bn, 0, none⟩) (.inl rfl) (.int .i64 4)).setCell (p := ⟨Bn, 1, none⟩) (.inl rfl) (.int .i64 0)).setCell (p := ⟨Bn, 2, none⟩) (.inl rfl) (.string ⟨#[]⟩)).setCell (p := ⟨Bn, 3, none⟩) (.inl rfl) (.int .i64 0)).setCell (p := ⟨Bn, 4, none⟩) (.inl rfl) (.int .i64 0)).setCell (p := ⟨Bn, 5, none⟩) (.inl rfl) (.string ⟨#[]⟩)).setCell (p := ⟨Bn, 6, none⟩) (.inl rfl) (.slice none 0 0)).setCell (p := ⟨Bn, 7, none⟩) (.inl rfl) ((.slice (some ⟨wr.heap.size, 0, none⟩) 1 1)))
      have hr9 := (setCell_row 7 ((.slice (some ⟨wr.heap.size, 0, none⟩) 1 1)) (setCell_row 6 (.slice none 0 0) (setCell_row 5 (.string ⟨#[]⟩) (setCell_row 4 (.int .i64 0) (setCell_row 3 (.int .i64 0) (setCell_row 2 (.string ⟨#[]⟩) (setCell_row 1 (.int .i64 0) (setCell_row 0 (.int .i64 4) hgz))))))))
      simp only [nU, List.setIfInBounds_toArray, List.set_cons_zero, List.set_cons_succ] at hr9
      have HR9 := hid hr9
      have HN9 := hid (hn9.frame hf9 fun _ h => h)
      have HF9 := hid ((HFR.out.trans' (hfa.mono fun _ _ h => h.elim)).trans' hf9)
      have HT9 := hid (show notN (k + 1) = nd0 4 [nd0 op ll] by rw [notN, HT.out])
      clear hgz hn9 hf9 hr9 hfa
      go_wp2_with fail
      go_roundw
      case rel => exact ⟨k + 1, 4, [nd0 op ll], some ⟨wr.heap.size, 0, none⟩, 1, by omega, by go_num, HT9, HR9, HN9, HF9⟩
      case measure => simp [intOf]; omega
    · obtain rfl : k = m := by omega
      have hfw : Fr (fun _ => False) w wr := HF0.out.trans HFR.out (fun _ _ => id) (fun q hq e => by have := HBW.out; omega)
      have hx : NIn (fun _ => True) wr (nd0 op ll) (nU op (.slice a2 ll.length c2)) := (nd0_in op HN.out).mono fun _ _ _ => trivial
      have hsz := notN_sz k
      have hpv := pValid_not k HM6.out
      have hde := notN_dep k
      have hcn := notN_cnt k
      rw [HT.out] at hsz hpv hde hcn
      have HEX := hid (texpr_any pa (nd0 op ll) (by have := HM6.out; omega) _ wr _ hx (HE.out.frame hfw) (Nat.le_trans HG.out hfw.size))
      have HPV := hid hpv; have HDE := hid hde; have HCN := hid hcn; have HFW := hid hfw; have HX := hid hx
      have hdd : ((k + 1 : Nat) : Int) < (k : Int) + 1 ↔ False := by constructor <;> intro h <;> first | exact h.elim | omega
      have hge : ¬ ((k + 1 : Nat) : Int) < (k : Int) + 1 := by omega
      have d0 : wr.cell? ⟨Bn, 0, none⟩ = some (.int .i64 op) := by rw [cell_of_row _ _ 0 _ _ _ HR.out]; rfl
      have d1 : wr.cell? ⟨Bn, 1, none⟩ = some (.int .i64 0) := by rw [cell_of_row _ _ 1 _ _ _ HR.out]; rfl
      have d2 : wr.cell? ⟨Bn, 2, none⟩ = some (.string ⟨#[]⟩) := by rw [cell_of_row _ _ 2 _ _ _ HR.out]; rfl
      have d3 : wr.cell? ⟨Bn, 3, none⟩ = some (.int .i64 0) := by rw [cell_of_row _ _ 3 _ _ _ HR.out]; rfl
      have d4 : wr.cell? ⟨Bn, 4, none⟩ = some (.int .i64 0) := by rw [cell_of_row _ _ 4 _ _ _ HR.out]; rfl
      have d5 : wr.cell? ⟨Bn, 5, none⟩ = some (.string ⟨#[]⟩) := by rw [cell_of_row _ _ 5 _ _ _ HR.out]; rfl
      have d6 : wr.cell? ⟨Bn, 6, none⟩ = some (.slice none 0 0) := by rw [cell_of_row _ _ 6 _ _ _ HR.out]; rfl
      have d7 : wr.cell? ⟨Bn, 7, none⟩ = some ((.slice a2 ll.length c2)) := by rw [cell_of_row _ _ 7 _ _ _ HR.out]; rfl
      unfold nU at HEX
      clear hx hsz hpv hde hcn hfw hdd hlt hk
      go_wp2_with fail
      refine HEX.out.mono ?_
      rintro e w5 ⟨v5, rfl, hf5, hv5⟩
      rw [HPV.out] at hv5
      have HF5 := hid (HFW.out.trans' hf5)
      replace d0 := hf5.cell d0 not_false
      replace d1 := hf5.cell d1 not_false
      replace d2 := hf5.cell d2 not_false
      replace d3 := hf5.cell d3 not_false
      replace d4 := hf5.cell d4 not_false
      replace d5 := hf5.cell d5 not_false
      replace d6 := hf5.cell d6 not_false
      replace d7 := hf5.cell d7 not_false
      have HX5 := hid (HX.out.frame hf5 fun _ _ => not_false)
      clear hf5
      by_cases h40 : 40 < k + 1
      · rw [if_pos h40] at hv5
        have h40I : (k : Int) + 1 > 40 := by omega
        have HIS := hid (is_err (HE.out.frame HF5.out) hv5 112)
        obtain ⟨-, ⟨-, -, rfl⟩ | ⟨h, -⟩⟩ := hv5
        · clear d0 d1 d2 d3 d4 d5 d6 d7 h40
          go_wp2_with fail
          refine HIS.out.mono ?_
          rintro e w6 ⟨rfl, hf6⟩
          have HF6 := hid (HF5.out.trans' hf6)
          clear hf6
          go_wp2_with fail
          go_ret
          exact ⟨rfl, HF6.out⟩
        · cases h
      · rw [if_neg h40] at hv5
        have h40I : ¬ (k : Int) + 1 > 40 := by omega
        obtain ⟨-, ⟨-, -, rfl⟩ | ⟨h, -⟩⟩ := hv5
        · have hfa := (Fr.refl (fun _ => False) w5).alloc (.cells #[.int .i64 op, .int .i64 0, .string ⟨#[]⟩, .int .i64 0, .int .i64 0, .string ⟨#[]⟩, .slice none 0 0, (.slice a2 ll.length c2)] 29)
          have hnl : NL (fun _ => True) _ [nd0 op ll] (.slice (some ⟨w5.heap.size, 0, none⟩) 1 1) := NL.lit1 (heap_alloc_new w5 (.cells #[.int .i64 op, .int .i64 0, .string ⟨#[]⟩, .int .i64 0, .int .i64 0, .string ⟨#[]⟩, .slice none 0 0, (.slice a2 ll.length c2)] 29)) trivial (HX5.out.frame hfa fun _ _ => not_false)
          have HDP := hid (tdeep_any 100 [nd0 op ll] (by have := HCN.out; have := HM6.out; simp only [cntL]; omega) (by have := HCN.out; have := HM6.out; simp only [cntL]; omega) _ _ _ hnl)
          have HDV := hid (show depL [nd0 op ll] = k + 1 by have := HDE.out; simp only [depL]; omega)
          have HFA := hid (HF5.out.trans' hfa)
          unfold nU at HDP HFA
          unfold errV
          clear hfa hnl h40
          go_wp2_with fail
          refine HDP.out.mono ?_
          rintro e w6 ⟨rfl, hf6⟩
          have HF6 := hid (HFA.out.trans' hf6)
          have he6 : ((depL [nd0 op ll] : Nat) : Int) = (k : Int) + 1 := by rw [HDV.out]; omega
          rw [he6]
          have hbe : ((k : Int) + 1 == (k : Int) + 1) = true := by simp
          clear hf6
          go_wp2_with fail
          go_ret
          exact ⟨rfl, HF6.out⟩
        · cases h

set_option maxRecDepth 100000 in
set_option maxHeartbeats 6400000 in
theorem bounds_many (pa : Nat → Addr) (n : Int) (b0 : -9223372036854775808 ≤ n) (c0 : n ≤ 9223372036854775807) (w : World) (hE : Sent17 w pa) (hg : 7 ≤ w.heap.size) :
    Calls Tryd.prog 5 #[.int .i64 n, .bool false] w fun e w' => e = .returned (.bool true) ∧ Fr (fun _ => False) w w' := by
  have HFI := hid (first_any pa w hE hg)
  have HE := hid hE; have HG := hid hg; have HB := hid b0; have HC := hid c0
  obtain ⟨m, hm⟩ : ∃ m : Nat, n % 6000 = m := ⟨(n % 6000).toNat, by have := Int.emod_nonneg n (show (6000 : Int) ≠ 0 by omega); omega⟩
  have hm6 : m < 6000 := by have := Int.emod_lt_of_pos n (show (0 : Int) < 6000 by omega); omega
  have HM := hid hm; have HM6 := hid hm6
  have hm6I : (m : Int) < 6000 := by omega
  clear hE hg b0 c0 hm hm6
  go_enter Tryd.func5, Tryd.ntmps5
  go_wp2_with fail
  refine HFI.out.mono ?_
  rintro e w1 ⟨rfl, hf1⟩
  have HF1 := hid hf1
  clear hf1
  go_wp2_with fail
  refine (number_any n 6000 w1 (by omega) (by omega) HB.out HC.out).mono ?_
  rintro e w1 ⟨rfl, rfl⟩
  rw [HM.out]
  obtain ⟨w2, hmk, hra, hf2⟩ := mk_nodes m (by have := HM6.out; omega) w1
  have HBW := hid (show w.heap.size ≤ w1.heap.size from HF1.out.size)
  have HF2 := hid (HF1.out.trans' hf2); have HRA := hid hra
  clear hra hf2
  go_wp2_with fail
  obtain ⟨Bn, hBn⟩ : ∃ B, w1.heap.size = B := ⟨_, rfl⟩
  rw [hBn] at HRA HBW ⊢
  clear hBn hmk
  go_loopw [10] (fun i wr => ∃ (k : Nat), k ≤ m ∧ i = .int .i64 k ∧ Hid (RetAt wr Bn m k) ∧ Hid (Fr (fun b => b = Bn) w2 wr)) (fun i _ => m - (intOf i).toNat)
  case atStart => exact ⟨0, Nat.zero_le _, rfl, hid HRA.out, hid (Fr.refl _ _)⟩
  case round =>
    obtain ⟨k, hk, rfl, HR, HFR⟩ := hrel
    by_cases hlt : k < m
    · have hlt' : (k : Int) < m := by omega
      have z0 : wr.cell? ⟨Bn, k * 8, none⟩ = some (.int .i64 0) := by have := HR.out.cell k hlt 0 (by omega); rw [if_neg (by omega)] at this; exact this
      have z1 : wr.cell? ⟨Bn, k * 8 + 1, none⟩ = some (.int .i64 0) := by have := HR.out.cell k hlt 1 (by omega); rw [if_neg (by omega)] at this; exact this
      have z2 : wr.cell? ⟨Bn, k * 8 + 2, none⟩ = some (.string ⟨#[]⟩) := by have := HR.out.cell k hlt 2 (by omega); rw [if_neg (by omega)] at this; exact this
      have z3 : wr.cell? ⟨Bn, k * 8 + 3, none⟩ = some (.int .i64 0) := by have := HR.out.cell k hlt 3 (by omega); rw [if_neg (by omega)] at this; exact this
      have z4 : wr.cell? ⟨Bn, k * 8 + 4, none⟩ = some (.int .i64 0) := by have := HR.out.cell k hlt 4 (by omega); rw [if_neg (by omega)] at this; exact this
      have z5 : wr.cell? ⟨Bn, k * 8 + 5, none⟩ = some (.string ⟨#[]⟩) := by have := HR.out.cell k hlt 5 (by omega); rw [if_neg (by omega)] at this; exact this
      have z6 : wr.cell? ⟨Bn, k * 8 + 6, none⟩ = some (.slice none 0 0) := by have := HR.out.cell k hlt 6 (by omega); rw [if_neg (by omega)] at this; exact this
      have z7 : wr.cell? ⟨Bn, k * 8 + 7, none⟩ = some (.slice none 0 0) := by have := HR.out.cell k hlt 7 (by omega); rw [if_neg (by omega)] at this; exact this
      have fz : ∀ i, wr.frozen? ⟨Bn, i, none⟩ = false := fun i => HR.out.frozen i
      have HR9 := hid (HR.out.store hlt)
      have HF9 := hid (HFR.out.trans' (show Fr (fun q => q = Bn) wr ((((((((wr.setCell ⟨Bn, k * 8, none⟩ (.int .i64 47)).setCell ⟨Bn, k * 8 + 1, none⟩ (.int .i64 0)).setCell ⟨Bn, k * 8 + 2, none⟩ (.string ⟨#[]⟩)).setCell ⟨Bn, k * 8 + 3, none⟩ (.int .i64 0)).setCell ⟨Bn, k * 8 + 4, none⟩ (.int .i64 0)).setCell ⟨Bn, k * 8 + 5, none⟩ (.string ⟨#[]⟩)).setCell ⟨Bn, k * 8 + 6, none⟩ (.slice none 0 0)).setCell ⟨Bn, k * 8 + 7, none⟩ (.slice none 0 0)) from (((((((((Fr.refl (fun q => q = Bn) wr).setCell (p := ⟨Bn, k * 8, none⟩) (.inl rfl) (.int .i64 47)).setCell (p := ⟨Bn, k * 8 + 1, none⟩) (.inl rfl) (.int .i64 0)).setCell (p := ⟨Bn, k * 8 + 2, none⟩) (.inl rfl) (.string ⟨#[]⟩)).setCell (p := ⟨Bn, k * 8 + 3, none⟩) (.inl rfl) (.int .i64 0)).setCell (p := ⟨Bn, k * 8 + 4, none⟩) (.inl rfl) (.int .i64 0)).setCell (p := ⟨Bn, k * 8 + 5, none⟩) (.inl rfl) (.string ⟨#[]⟩)).setCell (p := ⟨Bn, k * 8 + 6, none⟩) (.inl rfl) (.slice none 0 0)).setCell (p := ⟨Bn, k * 8 + 7, none⟩) (.inl rfl) (.slice none 0 0))))
      go_wp2_with fail
      go_roundw
      case rel => exact ⟨k + 1, by omega, by go_num, HR9, HF9⟩
      case measure => simp [intOf]; omega
    · obtain rfl : k = m := by omega
      have hfw : Fr (fun _ => False) w wr := HF2.out.trans HFR.out (fun _ _ => id) (fun q hq e => by have := HBW.out; omega)
      have hnl := HR.out.all (by have := HM6.out; omega)
      have hsz := retN_sz k
      have hpv := pValid_ret k
      have HVA := hid (tvalid_any pa (retN k) (by have := HM6.out; omega) _ wr _ hnl (HE.out.frame hfw) (Nat.le_trans HG.out hfw.size))
      have HPV := hid hpv; have HFW := hid hfw
      have HCT := hid (fun w5 (hf : Fr (fun _ => False) wr w5) => tcount_any 6001 (retN k) (by have := HM6.out; rw [retN_cnt]; omega) (by have := HM6.out; rw [retN_cnt]; omega) _ w5 _ (hnl.frame hf fun _ _ => not_false))
      have hge : ¬ (k : Int) < k := by omega
      clear hsz hpv hfw hlt hk hnl
      go_wp2_with fail
      refine HVA.out.mono ?_
      rintro e w5 ⟨v5, rfl, hf5, hv5⟩
      rw [HPV.out] at hv5
      have HF5 := hid (HFW.out.trans' hf5); have HCT5 := hid (HCT.out w5 hf5)
      clear hf5
      by_cases h40 : 4096 < k
      · rw [if_pos h40] at hv5
        have h40I : (k : Int) > 4096 := by omega
        have HIS := hid (is_err (HE.out.frame HF5.out) hv5 104)
        obtain ⟨-, ⟨-, -, rfl⟩ | ⟨h, -⟩⟩ := hv5
        · clear h40
          go_wp2_with fail
          refine HIS.out.mono ?_
          rintro e w6 ⟨rfl, hf6⟩
          have HF6 := hid (HF5.out.trans' hf6)
          clear hf6
          go_wp2_with fail
          go_ret
          exact ⟨rfl, HF6.out⟩
        · cases h
      · rw [if_neg h40] at hv5
        have h40I : ¬ (k : Int) > 4096 := by omega
        obtain ⟨-, ⟨-, -, rfl⟩ | ⟨h, -⟩⟩ := hv5
        · unfold errV
          clear h40
          go_wp2_with fail
          refine HCT5.out.mono ?_
          rintro e w6 ⟨rfl, hf6⟩
          have HF6 := hid (HF5.out.trans' hf6)
          rw [retN_cnt]
          have hbe : ((k : Int) == (k : Int)) = true := by simp
          clear hf6
          go_wp2_with fail
          go_ret
          exact ⟨rfl, HF6.out⟩
        · cases h
theorem treeBounds_any (pa : Nat → Addr) (n : Int) (deep : Bool) (b0 : -9223372036854775808 ≤ n) (c0 : n ≤ 9223372036854775807) (w : World) (hE : Sent17 w pa) (hg : 7 ≤ w.heap.size) :
    Calls Tryd.prog 5 #[.int .i64 n, .bool deep] w fun e w' => e = .returned (.bool true) ∧ Fr (fun _ => False) w w' := by
  cases deep
  · exact bounds_many pa n b0 c0 w hE hg
  · exact bounds_deep pa n b0 c0 w hE hg
end Go.Proofs.YteihmagldhmjgaaDoor
