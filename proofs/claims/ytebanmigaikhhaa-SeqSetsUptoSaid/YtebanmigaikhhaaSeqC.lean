/- seq.made: a list of its own, if it may be. -/
import Derived.Test.YtebanmigaikhhaaSeqB
import Derived.Test.YtebanmigaikhhaaVDeep
namespace Go.Proofs.Ytebanmigaikhhaa
open Go.RowKit

/-- The code of a list that is made. -/
def mcode (l : List V) : Nat := if 40 < 1 + deepL l then 9 else if 4096 < 1 + sizeL l then 14 else 0
def mlist (l : List V) : List V := if mcode l = 0 then l else []
def sz7 (n : Nat) : Nat := min (1 + n) 4097

theorem run_fieldL (a b : Int) (s : ByteArray) (v : Value) (w : World) : Sem.run Try.prog (Instr.field 30 (.agg #[.int .i64 a, .int .i64 b, .string s, v]) 3) w = .ok v w := by
  simp [Instr.field, run_underlying Try.underlying30, part, isAgg, run_underlying Try.underlying22, asAgg, Value.cells]
theorem VIn.list {D : Nat → Prop} {w : World} {k n : Int} {s : ByteArray} {l : List V} {u : Array Value} (h : VIn D w (.mk k n s l) u) : ∃ a c, u = #[.int .i64 k, .int .i64 n, .string s, .slice a l.length c] ∧ VL D w l (.slice a l.length c) := by
  cases h with
  | mk k n s l a cap us hc hm hn hb hi => exact ⟨a, cap, rfl, a, cap, us, rfl, hc, hm, hn, hb, hi⟩
set_option maxRecDepth 100000 in
set_option maxHeartbeats 3200000 in
theorem made_any (l : List V) (hM : sizeL l ≤ 1099511627776) (D : Nat → Prop) (w : World) (v : Value) (h : VL D w l v) :
    Calls Try.prog 45 #[v] w fun e w' => ∃ v', e = .returned (.tuple #[v', .int .i64 (mcode l)]) ∧ Fr (fun _ => False) w w' ∧ VL (fun b => w.heap.size ≤ b ∧ Soft w' b) w' (mlist l) v' := by
  have hll := len_le_sizeL l
  have hdl := deepL_le l
  obtain ⟨a, cap, us, rfl, hc, hm, hn, hb, hi⟩ := id h
  have HH := hid h
  have hlm : l.length ≤ 1099511627776 := by omega
  have HB := hid hb; have HI := hid hi; have HM := hid hM; have HDL := hid hdl
  clear hb hi hM hn hll hdl h
  go_enter Try.func45, Try.ntmps45
  go_wp2
  go_loopw [4, 5, 10] (fun d s i wr => ∃ k : Nat, k ≤ l.length ∧ i = .int .i64 k ∧ d = .int .i64 ((1 + deepL (l.take k) : Nat) : Int) ∧ s = .int .i64 ((sz7 (sizeL (l.take k)) : Nat) : Int) ∧ Hid (Fr (fun _ => False) w wr)) (fun _ _ i _ => l.length - (intOf i).toNat)
  case atStart => exact ⟨0, Nat.zero_le _, rfl, by simp [deepL], by simp [sizeL, sz7], hid (Fr.refl _ _)⟩
  case round =>
    obtain ⟨k, hk, rfl, rfl, rfl, HF⟩ := hrel
    by_cases hlt : k < l.length
    · obtain ⟨b, o, y, a', c', rfl, -, hy, hv, e0, e1, e2, e3⟩ := VL.elem HB.out HI.out k hlt
      replace e0 := HF.out.cell e0 not_false
      replace e1 := HF.out.cell e1 not_false
      replace e2 := HF.out.cell e2 not_false
      replace e3 := HF.out.cell e3 not_false
      have hv2 := fun o' => hv.frame (HF.out.alloc o') (fun _ _ => not_false)
      have t1 := deepL_take l k y hy
      have t2 := sizeL_take l k y hy
      have t9 := V.deep_le y
      have t8 := deepL_take_le l k
      have t7 := sizeL_mem hy
      have hy2 : y.size ≤ 1099511627776 := by have := HM.out; omega
      have hcd := vdeep_any y.size y (Nat.le_refl _) hy2 D
      have hcs := vsize_any y.size y (Nat.le_refl _) (by omega) D
      have hq : y.deep ≤ 1099511627776 := by omega
      have hq2 : 1 + deepL (l.take k) ≤ 1099511627777 := by have := HM.out; have := HDL.out; omega
      have hq3 : sz7 (sizeL (l.take k)) ≤ 4097 := Nat.min_le_right _ _
      have hs7 : min (((sz7 (sizeL (l.take k)) : Nat) : Int) + y.size) 4097 = ((sz7 (sizeL (l.take (k + 1))) : Nat) : Int) := by rw [t2]; unfold sz7; omega
      have hd7 : max (((1 + deepL (l.take k) : Nat) : Int)) (1 + y.deep) = ((1 + deepL (l.take (k + 1)) : Nat) : Int) := by rw [t1]; omega
      clear hv t9 t8 t1 t2 t7
      have HV := hid hv2; have HCD := hid hcd; have HCS := hid hcs; have HS7 := hid hs7; have HD7 := hid hd7
      clear hv2 hcd hcs hs7 hd7 hy
      generalize y.deep = yd at *
      generalize y.size = ys at *
      generalize sz7 (sizeL (l.take k)) = sk at *
      generalize 1 + deepL (l.take k) = dk at *
      go_wp2_with fail
      refine (HCD.out _ _ (HV.out _)).mono ?_
      rintro e w2 ⟨rfl, hf2⟩
      have hr2 := hf2.heap (heap_alloc_new wr (.cells #[.int .i64 y.k, .int .i64 y.n, .string y.s, .slice a' y.l.length c'] 30)) not_false
      have HF2 := hid (((HF.out.alloc _).trans' hf2))
      have hv3 := (HV.out (.cells #[.int .i64 y.k, .int .i64 y.n, .string y.s, .slice a' y.l.length c'] 30)).frame hf2 fun _ _ => not_false
      have z0 : w2.cell? ⟨wr.heap.size, 0, none⟩ = some (.int .i64 y.k) := by rw [cell_of_row _ _ 0 _ _ _ hr2]; rfl
      have z1 : w2.cell? ⟨wr.heap.size, 1, none⟩ = some (.int .i64 y.n) := by rw [cell_of_row _ _ 1 _ _ _ hr2]; rfl
      have z2 : w2.cell? ⟨wr.heap.size, 2, none⟩ = some (.string y.s) := by rw [cell_of_row _ _ 2 _ _ _ hr2]; rfl
      have z3 : w2.cell? ⟨wr.heap.size, 3, none⟩ = some (.slice a' y.l.length c') := by rw [cell_of_row _ _ 3 _ _ _ hr2]; rfl
      have HV3 := hid hv3
      clear hf2 hr2 hv3
      go_wp2_with fail
      all_goals
        refine (HCS.out _ _ HV3.out).mono ?_
        rintro e w3 ⟨rfl, hf3⟩
        have HF3 := hid (HF2.out.trans' hf3)
        clear hf3
        go_wp2_with fail
        all_goals
          go_roundw
          case rel => exact ⟨k + 1, by omega, by go_num, by rw [← HD7.out]; exact int_eq (by omega), by rw [← HS7.out]; exact int_eq (by omega), HF3⟩
          case measure => simp [intOf]; omega
    · have hkl : l.take k = l := List.take_of_length_le (by omega)
      rw [hkl]
      have HH2 := hid (HH.out.frame HF.out fun _ _ => not_false)
      have hsz : sizeL l ≤ 1099511627776 := HM.out
      have hdp : deepL l ≤ 1099511627776 := by have := HDL.out; omega
      by_cases h40 : 40 < 1 + deepL l
      · have hmc : mcode l = 9 := by unfold mcode; rw [if_pos h40]
        have hml : mlist l = [] := by unfold mlist; rw [if_neg (by omega)]
        have HMC := hid hmc; have HML := hid hml
        have hI : (40 : Int) < ((1 + deepL l : Nat) : Int) := by omega
        generalize 1 + deepL l = dd at *
        clear hmc hml hkl
        go_wp2_with fail
        go_ret2
        exact ⟨_, by rw [HMC.out]; rfl, HF.out, by rw [HML.out]; exact VL.nil _ _⟩
      · by_cases h41 : 4096 < 1 + sizeL l
        · have hmc : mcode l = 14 := by unfold mcode; rw [if_neg h40, if_pos h41]
          have hml : mlist l = [] := by unfold mlist; rw [if_neg (by omega)]
          have HMC := hid hmc; have HML := hid hml
          have hI : ¬ (40 : Int) < ((1 + deepL l : Nat) : Int) := by omega
          have hI2 : sz7 (sizeL l) = 4097 := by unfold sz7; omega
          rw [hI2]
          generalize 1 + deepL l = dd at *
          clear hmc hml hkl hI2
          go_wp2_with fail
          go_ret2
          exact ⟨_, by rw [HMC.out]; rfl, HF.out, by rw [HML.out]; exact VL.nil _ _⟩
        · have hmc : mcode l = 0 := by unfold mcode; rw [if_neg h40, if_neg h41]
          have hml : mlist l = l := by unfold mlist; rw [if_pos hmc]
          have HMC := hid hmc; have HML := hid hml
          have hI : ¬ (40 : Int) < ((1 + deepL l : Nat) : Int) := by omega
          have hI2 : ¬ (4096 : Int) < ((sz7 (sizeL l) : Nat) : Int) := by unfold sz7; omega
          have hI3 : sz7 (sizeL l) ≤ 4096 := by omega
          generalize 1 + deepL l = dd at *
          generalize sz7 (sizeL l) = ss at *
          clear hmc hml hkl
          go_wp2_with fail
          refine (vL_any l HM.out D wr _ HH2.out).mono ?_
          rintro e w4 ⟨u', rfl, hf4, hv4, -⟩
          obtain ⟨a2, c2, rfl, hvl⟩ := hv4.list
          have HF4 := hid (HF.out.trans' hf4)
          have HVL := hid (hvl.mono fun q _ hq => ⟨Nat.le_trans HF.out.size hq.1, hq.2⟩ : VL (fun b => w.heap.size ≤ b ∧ Soft w4 b) w4 l _)
          clear hf4 hv4 hvl
          have hfl := run_fieldL
          go_wp2_with fail
          go_ret2
          exact ⟨_, by rw [HMC.out]; rfl, HF4.out, by rw [HML.out]; exact HVL.out⟩
end Go.Proofs.Ytebanmigaikhhaa
