/- TaskWakes: for every input the law returns true, where api's errors read as the program lays them. The walk is TaskWakes's; here it is carried to the given row and its card. -/
import Derived.Test.YtdcfidefkoamnaaDoorCards
import Derived.Test.YtdcfidefkoamnaaDoorTie
import Derived.Test.YtdcfidefkoamnaaDoorTaskWakes
import Derived.Test.YtdcfidefkoamnaaDoorLaid3
import Derived.JoinedCond
import Derived.LaidMore
import Derived.Deep.DeepHandedRow
import Derived.Deep.DeepWitnessRowRef
import Derived.SevenTiedAt
namespace Go.Proofs.YtdcfidefkoamnaaDoor
open Go.ChangeShapes Go.WideShapes Go.ChangeAt Go.RowKit

noncomputable def taskWakesArgs : Array Value := #[.int .i64 0, .int .i64 0, .int .i64 0]
theorem taskWakes_laid (os : Os) : laidMet Tryd.prog Rows.taskWakesRow.laid (((World.doorLaid Tryd.prog 332 os)).forCall (fun _ _ => 0) ⟨#[], taskWakesArgs, []⟩).memory :=
  laidMet_of_run' 8 (by kernel_rfl) (by kernel_rfl)
theorem taskWakes_reads (os : Os) {H : Type} (enc : TypeId × Value → H) : ∃ places, DataW.whole enc Tryd.prog ((World.doorLaid Tryd.prog 332 os).forCall (fun _ _ => 0) ⟨#[], taskWakesArgs, []⟩).memory Tryd.f5.params.toList Rows.taskWakesSpec.vars false taskWakesArgs.toList 8 = some ([.lit (.int .i64 0), .lit (.int .i64 0), .lit (.int .i64 0)], [], places) :=
  ⟨[], by kernel_rfl⟩
theorem taskWakes_tab (i : Nat) (hi : i = 3 ∨ i = 4 ∨ i = 8) : TabAt Rows.taskWakesRow.laid ([0, 0, 0, 0, 1, 0, 0, 0, 2, 0, 0, 0, 0, 0, 0, 0, 0].getD i 0) i := by
  rcases hi with rfl | rfl | rfl
  all_goals exact ⟨_, _, rfl, by kernel_rfl, by kernel_rfl⟩

set_option maxRecDepth 100000 in
theorem taskWakes_lifted (os : Os) (started : os.Started) (H : Type) (enc : TypeId × Value → H) (F : Stop.Interp) :
    ReturnsInHanded {} Tryd.checked os 5 .any ((OpenSpec.ofChange Rows.taskWakesSpec).preRow enc Tryd.prog Tryd.f5 Rows.taskWakesRow.domain false Rows.taskWakesRow.laid) (((OpenSpec.ofChange Rows.taskWakesSpec).at F).post enc Tryd.prog Tryd.f5 false true false false) := by
  obtain ⟨places, hx⟩ := taskWakes_reads os enc
  refine returnsInHanded_of_row (C := Tryd.checked) (s := OpenSpec.ofChange Rows.taskWakesSpec) Tryd.own started (by kernel_rfl) Tryd.func5
    (witness_row_atRef (enc := enc) (C := Tryd.checked) false (World.doorLaid Tryd.prog 332 os) taskWakesArgs rfl (by kernel_rfl) (by kernel_rfl) (by kernel_rfl)
      (OpenSpec.preRow_of_cond 8 hx (by kernel_rfl) (fun k hk => by cases hk) (by kernel_rfl) (taskWakes_laid os))) ?_
  intro W base args ds gs before hval0 hW _ _ _ hL _ _
  have hval : ∀ (j : Nat) t v, Tryd.f5.params[j]? = some t → args[j]? = some v → Value.okWide Tryd.prog W .any base t v := hval0
  have hW' := hW
  obtain ⟨p, q, hA0, hV, rfl, hfz, hnd⟩ := hW
  have hA : DataW.TrodAll enc Tryd.prog W 0 (fun _ => true) true Tryd.f5.params.toList args.toList ds p := hA0
  rw [Tryd.params5] at hA hval
  obtain ⟨v0, vs0, d0, ds0, p0, q0, hargs, rfl, rfl, h0, r0⟩ := trodAll_cons hA
  obtain ⟨v1, vs1, d1, ds1, p1, q1, rfl, rfl, rfl, h1, r1⟩ := trodAll_cons r0
  obtain ⟨v2, vs2, d2, ds2, p2, q2, rfl, rfl, rfl, h2, r2⟩ := trodAll_cons r1
  obtain ⟨rfl, rfl, rfl⟩ := trodAll_nil r2
  obtain rfl : args = #[v0, v1, v2] := by cases args; simp_all
  obtain ⟨rfl, rfl⟩ := trodVars_none hV
  obtain ⟨n0, rfl, b0, c0⟩ := cell_i64 Tryd.underlying3 (hval 0 3 v0 rfl rfl)
  obtain ⟨n1, rfl, b1, c1⟩ := cell_i64 Tryd.underlying3 (hval 1 3 v1 rfl rfl)
  obtain ⟨n2, rfl, b2, c2⟩ := cell_i64 Tryd.underlying2 (hval 2 2 v2 rfl rfl)
  clear hA0 hval0
  obtain ⟨pa, hE⟩ := of_laid3 _ [0, 0, 0, 0, 1, 0, 0, 0, 2, 0, 0, 0, 0, 0, 0, 0, 0] (by kernel_rfl) (taskWakes_tab 3 (by omega)) (taskWakes_tab 4 (by omega)) (taskWakes_tab 8 (by omega)) hL
  refine (taskWakes_any pa n0 n1 n2 b0 c0 b1 c1 b2 c2 W hE).mono fun e W' ⟨he, hf⟩ => ?_
  subst he
  exact ⟨_, rfl, law_post hW' hf Tryd.laidOut (by kernel_rfl) rfl rfl Tryd.underlying4 rfl rfl rfl⟩

theorem taskWakes_holds : Rows.TaskWakesSaid :=
  OpenClaim.holds_of_cond 5 Tryd.f5 rfl rfl rfl rfl rfl rfl rfl ⟨rfl, rfl, rfl, rfl, rfl⟩ rfl rfl rfl rfl rfl (by kernel_rfl) Tryd.func5 (by kernel_rfl)
    (of_decide_eq_true (by kernel_rfl)) (by unfold Func.isWrapper; first | (rw [if_pos (by decide +kernel)]; kernel_rfl) | (rw [if_neg (by decide +kernel)]; exact ⟨rfl, rfl⟩))
    (fun os started H enc _ F => by rw [OpenClaim.pre_eq_preRow]; exact taskWakes_lifted os started H enc F)

/-- No parameter wants a stand-in. -/
theorem taskWakes_plain (f : FuncId) (fn : Func) (hf : Tryd.pinned.checked.prog.funcNamed "inglenook/inglenooklaw24.TaskWakes" = some f) (hfn : Tryd.pinned.checked.prog.funcs[f]? = some fn) :
    true = Tryd.pinned.checked.prog.looks [] ∧ ∀ (j : Nat) t, fn.params[j]? = some t → Tryd.pinned.checked.prog.wantsStandIn t = false := by
  obtain rfl : f = 5 := Option.some.inj ((show Tryd.prog.funcNamed "inglenook/inglenooklaw24.TaskWakes" = some 5 by kernel_rfl).symm.trans hf) |>.symm
  obtain rfl : fn = Tryd.f5 := (Option.some.inj (Tryd.func5.symm.trans hfn)).symm
  refine ⟨by kernel_rfl, fun j t ht => ?_⟩
  rw [Tryd.params5] at ht
  have hm : t ∈ [3, 3, 2] := by simpa using Array.mem_of_getElem? ht
  have hall : ([3, 3, 2].all fun u => !Tryd.prog.wantsStandIn u) = true := by kernel_rfl
  exact (show Tryd.prog.wantsStandIn t = false by simpa using List.all_eq_true.1 hall t hm)

theorem taskWakes_card : Rows.TaskWakesCardSaid :=
  Claim7.holds_tied_plain_at .later [] _ _ _ _ taskWakes_holds (fun _ h => by cases h) (by kernel_rfl) (fun _ h => by cases h) taskWakes_row_tie rfl ⟨rfl, rfl⟩ (by kernel_rfl) rfl taskWakes_plain (by kernel_rfl)
#print axioms taskWakes_card
end Go.Proofs.YtdcfidefkoamnaaDoor
