/- DiskPlays: for every input the law returns true, where api's errors read as the program lays them. The walk is PlayC's; here it is carried to the given row and its card. -/
import Derived.Test.YtlhbgobjhddhlaaGreatDoorCards
import Derived.Test.YtlhbgobjhddhlaaGreatDoorTie
import Derived.Test.YtlhbgobjhddhlaaGreatDoorPlayDos
import Derived.Test.YtlhbgobjhddhlaaGreatDoorLaid
import Derived.JoinedCond
import Derived.LaidMore
import Derived.Deep.DeepHandedRow
import Derived.Deep.DeepWitnessRowRef
import Derived.SevenTiedAt
namespace Go.Proofs.YtlhbgobjhddhlaaGreatDoor
open Go.ChangeShapes Go.WideShapes Go.ChangeAt Go.RowKit

noncomputable def diskPlaysArgs : Array Value := #[.int .i64 0, .slice none 0 0]
theorem diskPlays_laid (os : Os) : laidMet Tryz.prog Rows.diskPlaysRow.laid (((World.doorLaid Tryz.prog 332 os)).forCall (fun _ _ => 0) ⟨#[], diskPlaysArgs, []⟩).memory :=
  laidMet_of_run' 8 (by kernel_rfl) (by kernel_rfl)
theorem diskPlays_reads (os : Os) {H : Type} (enc : TypeId × Value → H) : ∃ places, DataW.whole enc Tryz.prog ((World.doorLaid Tryz.prog 332 os).forCall (fun _ _ => 0) ⟨#[], diskPlaysArgs, []⟩).memory Tryz.f3.params.toList Rows.diskPlaysSpec.vars false diskPlaysArgs.toList 8 = some ([.lit (.int .i64 0), .nil], [], places) :=
  ⟨[], by kernel_rfl⟩
theorem diskPlays_tab : LaidTab Rows.diskPlaysRow.laid [0, 1, 2, 3, 4, 5, 6, 7, 8, 9, 10, 11, 12, 13, 14, 15, 16] := by
  intro i hi
  obtain rfl | rfl | rfl | rfl | rfl | rfl | rfl | rfl | rfl | rfl | rfl | rfl | rfl | rfl | rfl | rfl | rfl : i = 0 ∨ i = 1 ∨ i = 2 ∨ i = 3 ∨ i = 4 ∨ i = 5 ∨ i = 6 ∨ i = 7 ∨ i = 8 ∨ i = 9 ∨ i = 10 ∨ i = 11 ∨ i = 12 ∨ i = 13 ∨ i = 14 ∨ i = 15 ∨ i = 16 := by omega
  all_goals exact ⟨_, _, rfl, by kernel_rfl, by kernel_rfl⟩

set_option maxRecDepth 100000 in
theorem diskPlays_lifted (os : Os) (started : os.Started) (H : Type) (enc : TypeId × Value → H) (F : Stop.Interp) :
    ReturnsInHanded {} Tryz.checked os 3 .any ((OpenSpec.ofChange Rows.diskPlaysSpec).preRow enc Tryz.prog Tryz.f3 Rows.diskPlaysRow.domain false Rows.diskPlaysRow.laid) (((OpenSpec.ofChange Rows.diskPlaysSpec).at F).post enc Tryz.prog Tryz.f3 false true false false) := by
  obtain ⟨places, hx⟩ := diskPlays_reads os enc
  refine returnsInHanded_of_row (C := Tryz.checked) (s := OpenSpec.ofChange Rows.diskPlaysSpec) Tryz.own started (by kernel_rfl) Tryz.func3
    (witness_row_atRef (enc := enc) (C := Tryz.checked) false (World.doorLaid Tryz.prog 332 os) diskPlaysArgs rfl (by kernel_rfl) (by kernel_rfl) (by kernel_rfl)
      (OpenSpec.preRow_of_cond 8 hx (by kernel_rfl) (fun k hk => by cases hk) (by kernel_rfl) (diskPlays_laid os))) ?_
  intro W base args ds gs before hval0 hW _ _ _ hL _ _
  have hval : ∀ (j : Nat) t v, Tryz.f3.params[j]? = some t → args[j]? = some v → Value.okWide Tryz.prog W .any base t v := hval0
  have hW' := hW
  obtain ⟨p, q, hA0, hV, rfl, hfz, hnd⟩ := hW
  have hA : DataW.TrodAll enc Tryz.prog W 0 (fun _ => true) true Tryz.f3.params.toList args.toList ds p := hA0
  rw [Tryz.params3] at hA hval
  obtain ⟨v0, vs0, d0, ds0, p0, q0, hargs, rfl, rfl, h0, r0⟩ := trodAll_cons hA
  obtain ⟨v1, vs1, d1, ds1, p1, q1, rfl, rfl, rfl, h1, r1⟩ := trodAll_cons r0
  obtain ⟨rfl, rfl, rfl⟩ := trodAll_nil r1
  obtain rfl : args = #[v0, v1] := by cases args; simp_all
  obtain ⟨rfl, rfl⟩ := trodVars_none hV
  obtain ⟨n0, rfl, b0, c0⟩ := cell_i64 Tryz.underlying3 (hval 0 3 v0 rfl rfl)
  obtain ⟨f1, hf1⟩ := h1
  obtain ⟨n1, w1, hcs1, b1, c1⟩ := open_dos hf1
  obtain ⟨a1, l1, k1, rfl⟩ := okWide_slice Tryz.underlying22 (hval 1 22 v1 rfl rfl)
  obtain rfl : w1 = .slice a1 l1 k1 := by simpa [Value.cells] using hcs1.symm
  clear hA0 hval0
  obtain ⟨pa, hE⟩ := of_laidx _ [0, 1, 2, 3, 4, 5, 6, 7, 8, 9, 10, 11, 12, 13, 14, 15, 16] (by kernel_rfl) (by decide +kernel) diskPlays_tab hL
  refine (diskPlays_any n0 _ n1 W ⟨b0, c0⟩ b1 c1 hE).mono fun e W' ⟨he, hf⟩ => ?_
  subst he
  exact ⟨_, rfl, law_post hW' hf Tryz.laidOut (by kernel_rfl) rfl rfl Tryz.underlying4 rfl rfl rfl⟩

theorem diskPlays_holds : Rows.DiskPlaysSaid :=
  OpenClaim.holds_of_cond 3 Tryz.f3 rfl rfl rfl rfl rfl rfl rfl ⟨rfl, rfl, rfl, rfl, rfl⟩ rfl rfl rfl rfl rfl (by kernel_rfl) Tryz.func3 (by kernel_rfl)
    (of_decide_eq_true (by kernel_rfl)) (by unfold Func.isWrapper; first | (rw [if_pos (by decide +kernel)]; kernel_rfl) | (rw [if_neg (by decide +kernel)]; exact ⟨rfl, rfl⟩))
    (fun os started H enc _ F => by rw [OpenClaim.pre_eq_preRow]; exact diskPlays_lifted os started H enc F)

/-- No parameter wants a stand-in. -/
theorem diskPlays_plain (f : FuncId) (fn : Func) (hf : Tryz.pinned.checked.prog.funcNamed "inglenook/inglenooklaw20.DiskPlays" = some f) (hfn : Tryz.pinned.checked.prog.funcs[f]? = some fn) :
    true = Tryz.pinned.checked.prog.looks [] ∧ ∀ (j : Nat) t, fn.params[j]? = some t → Tryz.pinned.checked.prog.wantsStandIn t = false := by
  obtain rfl : f = 3 := Option.some.inj ((show Tryz.prog.funcNamed "inglenook/inglenooklaw20.DiskPlays" = some 3 by kernel_rfl).symm.trans hf) |>.symm
  obtain rfl : fn = Tryz.f3 := (Option.some.inj (Tryz.func3.symm.trans hfn)).symm
  refine ⟨by kernel_rfl, fun j t ht => ?_⟩
  rw [Tryz.params3] at ht
  have hm : t ∈ [3, 22] := by simpa using Array.mem_of_getElem? ht
  have hall : ([3, 22].all fun u => !Tryz.prog.wantsStandIn u) = true := by kernel_rfl
  exact (show Tryz.prog.wantsStandIn t = false by simpa using List.all_eq_true.1 hall t hm)

theorem diskPlays_card : Rows.DiskPlaysCardSaid :=
  Claim7.holds_tied_plain_at .later [] _ _ _ _ diskPlays_holds (fun _ h => by cases h) (by kernel_rfl) (fun _ h => by cases h) diskPlays_row_tie rfl ⟨rfl, rfl⟩ (by kernel_rfl) rfl diskPlays_plain (by kernel_rfl)
#print axioms diskPlays_card
end Go.Proofs.YtlhbgobjhddhlaaGreatDoor
