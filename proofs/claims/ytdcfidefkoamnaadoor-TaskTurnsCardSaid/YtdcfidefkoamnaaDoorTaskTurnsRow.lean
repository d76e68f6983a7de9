/- TaskTurns: for every input the law returns true, where api's errors read as the program lays them. The walk is TaskTurns's; here it is carried to the given row and its card. -/
import Derived.Test.YtdcfidefkoamnaaDoorCards
import Derived.Test.YtdcfidefkoamnaaDoorTie
import Derived.Test.YtdcfidefkoamnaaDoorTaskTurns
import Derived.Test.YtdcfidefkoamnaaDoorLaid3
import Derived.JoinedCond
import Derived.LaidMore
import Derived.Deep.DeepHandedRow
import Derived.Deep.DeepWitnessRowRef
import Derived.SevenTiedAt
namespace Go.Proofs.YtdcfidefkoamnaaDoor
open Go.ChangeShapes Go.WideShapes Go.ChangeAt Go.RowKit

noncomputable def taskTurnsArgs : Array Value := #[.slice none 0 0]
theorem taskTurns_laid (os : Os) : laidMet Tryd.prog Rows.taskTurnsRow.laid (((World.doorLaid Tryd.prog 332 os)).forCall (fun _ _ => 0) ⟨#[], taskTurnsArgs, []⟩).memory :=
  laidMet_of_run' 8 (by kernel_rfl) (by kernel_rfl)
theorem taskTurns_reads (os : Os) {H : Type} (enc : TypeId × Value → H) : ∃ places, DataW.whole enc Tryd.prog ((World.doorLaid Tryd.prog 332 os).forCall (fun _ _ => 0) ⟨#[], taskTurnsArgs, []⟩).memory Tryd.f3.params.toList Rows.taskTurnsSpec.vars false taskTurnsArgs.toList 8 = some ([.nil], [], places) :=
  ⟨[], by kernel_rfl⟩
theorem taskTurns_tab (i : Nat) (hi : i = 3 ∨ i = 4 ∨ i = 8) : TabAt Rows.taskTurnsRow.laid ([0, 0, 0, 0, 1, 0, 0, 0, 2, 0, 0, 0, 0, 0, 0, 0, 0].getD i 0) i := by
  rcases hi with rfl | rfl | rfl
  all_goals exact ⟨_, _, rfl, by kernel_rfl, by kernel_rfl⟩

set_option maxRecDepth 100000 in
theorem taskTurns_lifted (os : Os) (started : os.Started) (H : Type) (enc : TypeId × Value → H) (F : Stop.Interp) :
    ReturnsInHanded {} Tryd.checked os 3 .any ((OpenSpec.ofChange Rows.taskTurnsSpec).preRow enc Tryd.prog Tryd.f3 Rows.taskTurnsRow.domain false Rows.taskTurnsRow.laid) (((OpenSpec.ofChange Rows.taskTurnsSpec).at F).post enc Tryd.prog Tryd.f3 false true false false) := by
  obtain ⟨places, hx⟩ := taskTurns_reads os enc
  refine returnsInHanded_of_row (C := Tryd.checked) (s := OpenSpec.ofChange Rows.taskTurnsSpec) Tryd.own started (by kernel_rfl) Tryd.func3
    (witness_row_atRef (enc := enc) (C := Tryd.checked) false (World.doorLaid Tryd.prog 332 os) taskTurnsArgs rfl (by kernel_rfl) (by kernel_rfl) (by kernel_rfl)
      (OpenSpec.preRow_of_cond 8 hx (by kernel_rfl) (fun k hk => by cases hk) (by kernel_rfl) (taskTurns_laid os))) ?_
  intro W base args ds gs before hval0 hW _ _ _ hL _ _
  have hval : ∀ (j : Nat) t v, Tryd.f3.params[j]? = some t → args[j]? = some v → Value.okWide Tryd.prog W .any base t v := hval0
  have hW' := hW
  obtain ⟨p, q, hA0, hV, rfl, hfz, hnd⟩ := hW
  have hA : DataW.TrodAll enc Tryd.prog W 0 (fun _ => true) true Tryd.f3.params.toList args.toList ds p := hA0
  rw [Tryd.params3] at hA hval
  obtain ⟨v0, vs0, d0, ds0, p0, q0, hargs, rfl, rfl, h0, r0⟩ := trodAll_cons hA
  obtain ⟨rfl, rfl, rfl⟩ := trodAll_nil r0
  obtain rfl : args = #[v0] := by cases args; simp_all
  obtain ⟨rfl, rfl⟩ := trodVars_none hV
  obtain ⟨a0, l0, c0, rfl⟩ := okWide_slice Tryd.underlying22 (hval 0 22 v0 rfl rfl)
  obtain ⟨n0, b0⟩ := open_isl Tryd.underlying22 Tryd.underlying2 (by kernel_rfl) h0
  clear hA0 hval0
  obtain ⟨pa, hE⟩ := of_laid3 _ [0, 0, 0, 0, 1, 0, 0, 0, 2, 0, 0, 0, 0, 0, 0, 0, 0] (by kernel_rfl) (taskTurns_tab 3 (by omega)) (taskTurns_tab 4 (by omega)) (taskTurns_tab 8 (by omega)) hL
  refine (taskTurns_any pa _ n0 W b0 hE).mono fun e W' ⟨he, hf⟩ => ?_
  subst he
  exact ⟨_, rfl, law_post hW' hf Tryd.laidOut (by kernel_rfl) rfl rfl Tryd.underlying4 rfl rfl rfl⟩

theorem taskTurns_holds : Rows.TaskTurnsSaid :=
  OpenClaim.holds_of_cond 3 Tryd.f3 rfl rfl rfl rfl rfl rfl rfl ⟨rfl, rfl, rfl, rfl, rfl⟩ rfl rfl rfl rfl rfl (by kernel_rfl) Tryd.func3 (by kernel_rfl)
    (of_decide_eq_true (by kernel_rfl)) (by unfold Func.isWrapper; first | (rw [if_pos (by decide +kernel)]; kernel_rfl) | (rw [if_neg (by decide +kernel)]; exact ⟨rfl, rfl⟩))
    (fun os started H enc _ F => by rw [OpenClaim.pre_eq_preRow]; exact taskTurns_lifted os started H enc F)

/-- No parameter wants a stand-in. -/
theorem taskTurns_plain (f : FuncId) (fn : Func) (hf : Tryd.pinned.checked.prog.funcNamed "inglenook/inglenooklaw24.TaskTurns" = some f) (hfn : Tryd.pinned.checked.prog.funcs[f]? = some fn) :
    true = Tryd.pinned.checked.prog.looks [] ∧ ∀ (j : Nat) t, fn.params[j]? = some t → Tryd.pinned.checked.prog.wantsStandIn t = false := by
  obtain rfl : f = 3 := Option.some.inj ((show Tryd.prog.funcNamed "inglenook/inglenooklaw24.TaskTurns" = some 3 by kernel_rfl).symm.trans hf) |>.symm
  obtain rfl : fn = Tryd.f3 := (Option.some.inj (Tryd.func3.symm.trans hfn)).symm
  refine ⟨by kernel_rfl, fun j t ht => ?_⟩
  rw [Tryd.params3] at ht
  have hm : t ∈ [22] := by simpa using Array.mem_of_getElem? ht
  have hall : ([22].all fun u => !Tryd.prog.wantsStandIn u) = true := by kernel_rfl
  exact (show Tryd.prog.wantsStandIn t = false by simpa using List.all_eq_true.1 hall t hm)

theorem taskTurns_card : Rows.TaskTurnsCardSaid :=
  Claim7.holds_tied_plain_at .later [] _ _ _ _ taskTurns_holds (fun _ h => by cases h) (by kernel_rfl) (fun _ h => by cases h) taskTurns_row_tie rfl ⟨rfl, rfl⟩ (by kernel_rfl) rfl taskTurns_plain (by kernel_rfl)
#print axioms taskTurns_card
end Go.Proofs.YtdcfidefkoamnaaDoor
