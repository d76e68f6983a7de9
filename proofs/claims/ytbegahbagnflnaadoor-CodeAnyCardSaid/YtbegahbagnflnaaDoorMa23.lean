/- CodeAnyRow: a text whose imports were merged -/
import Derived.Test.YtbegahbagnflnaaDoorCards
import Derived.Test.YtbegahbagnflnaaDoorTie
import Derived.Test.YtbegahbagnflnaaDoorMa21
import Derived.Test.YtbegahbagnflnaaDoorMa19
import Derived.JoinedCond
import Derived.LaidMore
import Derived.Deep.DeepHandedRow
import Derived.Deep.DeepWitnessRowRef
import Derived.SevenTiedAt
set_option linter.unusedSimpArgs false
set_option linter.unusedVariables false
set_option linter.unnecessarySimpa false
namespace Go.Proofs.YtbegahbagnflnaaDoor
open Go.ChangeShapes Go.WideShapes Go.ChangeAt Go.RowKit

noncomputable def codeAnyArgs : Array Value := #[.slice none 0 0]
theorem codeAny_laid (os : Os) : laidMet Tryd.prog Rows.codeAnyRow.laid (((World.doorLaid Tryd.prog 332 os)).forCall (fun _ _ => 0) ⟨#[], codeAnyArgs, []⟩).memory :=
  laidMet_of_run' 8 (by kernel_rfl) (by kernel_rfl)
theorem codeAny_reads (os : Os) {H : Type} (enc : TypeId × Value → H) : ∃ places, DataW.whole enc Tryd.prog ((World.doorLaid Tryd.prog 332 os).forCall (fun _ _ => 0) ⟨#[], codeAnyArgs, []⟩).memory Tryd.f4.params.toList Rows.codeAnySpec.vars false codeAnyArgs.toList 8 = some ([.nil], [], places) :=
  ⟨[], by kernel_rfl⟩
theorem codeAny_tab : LaidTab Rows.codeAnyRow.laid [0, 1, 2, 3, 4, 5, 6, 7, 8, 9, 10, 11, 12, 13, 14, 15, 16] := by
  intro i hi
  obtain rfl | rfl | rfl | rfl | rfl | rfl | rfl | rfl | rfl | rfl | rfl | rfl | rfl | rfl | rfl | rfl | rfl : i = 0 ∨ i = 1 ∨ i = 2 ∨ i = 3 ∨ i = 4 ∨ i = 5 ∨ i = 6 ∨ i = 7 ∨ i = 8 ∨ i = 9 ∨ i = 10 ∨ i = 11 ∨ i = 12 ∨ i = 13 ∨ i = 14 ∨ i = 15 ∨ i = 16 := by omega
  all_goals exact ⟨_, _, rfl, by kernel_rfl, by kernel_rfl⟩

set_option maxRecDepth 100000 in
theorem codeAny_lifted (os : Os) (started : os.Started) (H : Type) (enc : TypeId × Value → H) (F : Stop.Interp) :
    ReturnsInHanded {} Tryd.checked os 4 .any ((OpenSpec.ofChange Rows.codeAnySpec).preRow enc Tryd.prog Tryd.f4 Rows.codeAnyRow.domain false Rows.codeAnyRow.laid) (((OpenSpec.ofChange Rows.codeAnySpec).at F).post enc Tryd.prog Tryd.f4 false true false false) := by
  obtain ⟨places, hx⟩ := codeAny_reads os enc
  refine returnsInHanded_of_row (C := Tryd.checked) (s := OpenSpec.ofChange Rows.codeAnySpec) Tryd.own started (by kernel_rfl) Tryd.func4
    (witness_row_atRef (enc := enc) (C := Tryd.checked) false (World.doorLaid Tryd.prog 332 os) codeAnyArgs rfl (by kernel_rfl) (by kernel_rfl) (by kernel_rfl)
      (OpenSpec.preRow_of_cond 8 hx (by kernel_rfl) (fun k hk => by cases hk) (by kernel_rfl) (codeAny_laid os))) ?_
  intro W base args ds gs before hval0 hW _ _ _ hL _ _
  have hval : ∀ (j : Nat) t v, Tryd.f4.params[j]? = some t → args[j]? = some v → Value.okWide Tryd.prog W .any base t v := hval0
  have hW' := hW
  obtain ⟨p, q, hA0, hV, rfl, hfz, hnd⟩ := hW
  have hA : DataW.TrodAll enc Tryd.prog W 0 (fun _ => true) true Tryd.f4.params.toList args.toList ds p := hA0
  rw [Tryd.params4] at hA hval
  obtain ⟨v0, vs0, d0, ds0, p0, q0, hargs, rfl, rfl, h0, r0⟩ := trodAll_cons hA
  obtain ⟨rfl, rfl, rfl⟩ := trodAll_nil r0
  obtain rfl : args = #[v0] := by cases args; simp_all
  obtain ⟨rfl, rfl⟩ := trodVars_none hV
  obtain ⟨a0, l0, c0, rfl⟩ := okWide_slice Tryd.underlying41 (hval 0 41 v0 rfl rfl)
  obtain ⟨n0, b0⟩ := open_bs Tryd.underlying41 Tryd.underlying5 (by kernel_rfl) h0
  clear hA0 hval0
  obtain ⟨pa, hE⟩ := of_laidx _ [0, 1, 2, 3, 4, 5, 6, 7, 8, 9, 10, 11, 12, 13, 14, 15, 16] (by kernel_rfl) (by decide +kernel) codeAny_tab hL
  refine (codeAny_any pa _ n0 _ W b0 hE).mono fun e W' ⟨he, hf⟩ => ?_
  subst he
  exact ⟨_, rfl, law_post hW' hf Tryd.laidOut (by kernel_rfl) rfl rfl Tryd.underlying4 rfl rfl rfl⟩

theorem codeAny_holds : Rows.CodeAnySaid :=
  OpenClaim.holds_of_cond 4 Tryd.f4 rfl rfl rfl rfl rfl rfl rfl ⟨rfl, rfl, rfl, rfl, rfl⟩ rfl rfl rfl rfl rfl (by kernel_rfl) Tryd.func4 (by kernel_rfl)
    (of_decide_eq_true (by kernel_rfl)) (by unfold Func.isWrapper; first | (rw [if_pos (by decide +kernel)]; kernel_rfl) | (rw [if_neg (by decide +kernel)]; exact ⟨rfl, rfl⟩))
    (fun os started H enc _ F => by rw [OpenClaim.pre_eq_preRow]; exact codeAny_lifted os started H enc F)

/-- No parameter wants a stand-in. -/
theorem codeAny_plain (f : FuncId) (fn : Func) (hf : Tryd.pinned.checked.prog.funcNamed "inglenook/inglenooklaw18.CodeAny" = some f) (hfn : Tryd.pinned.checked.prog.funcs[f]? = some fn) :
    true = Tryd.pinned.checked.prog.looks [] ∧ ∀ (j : Nat) t, fn.params[j]? = some t → Tryd.pinned.checked.prog.wantsStandIn t = false := by
  obtain rfl : f = 4 := Option.some.inj ((show Tryd.prog.funcNamed "inglenook/inglenooklaw18.CodeAny" = some 4 by kernel_rfl).symm.trans hf) |>.symm
  obtain rfl : fn = Tryd.f4 := (Option.some.inj (Tryd.func4.symm.trans hfn)).symm
  refine ⟨by kernel_rfl, fun j t ht => ?_⟩
  rw [Tryd.params4] at ht
  have hm : t ∈ [41] := by simpa using Array.mem_of_getElem? ht
  have hall : ([41].all fun u => !Tryd.prog.wantsStandIn u) = true := by kernel_rfl
  exact (show Tryd.prog.wantsStandIn t = false by simpa using List.all_eq_true.1 hall t hm)

theorem codeAny_card : Rows.CodeAnyCardSaid :=
  Claim7.holds_tied_plain_at .later [] _ _ _ _ codeAny_holds (fun _ h => by cases h) (by kernel_rfl) (fun _ h => by cases h) codeAny_row_tie rfl ⟨rfl, rfl⟩ (by kernel_rfl) rfl codeAny_plain (by kernel_rfl)
#print axioms codeAny_card
end Go.Proofs.YtbegahbagnflnaaDoor
