/- LineOut: for every input the law returns true. The walk is LineOut's; here it is carried to the given row and its card. -/
import Derived.Test.YtlfiljebfnejbaaDoorCards
import Derived.Test.YtlfiljebfnejbaaDoorTie
import Derived.Test.YtlfiljebfnejbaaDoorLineOut
import Derived.Test.YtlfiljebfnejbaaDoorLineDos
import Derived.Test.YtlfiljebfnejbaaDoorRow
import Derived.JoinedCond
import Derived.LaidMore
import Derived.Deep.DeepHandedRow
import Derived.Deep.DeepWitnessRowRef
import Derived.SevenTiedAt
namespace Go.Proofs.YtlfiljebfnejbaaDoor
open Go.ChangeShapes Go.WideShapes Go.ChangeAt Go.RowKit

noncomputable def lineOutArgs : Array Value := #[.int .i64 0, .slice none 0 0]
theorem lineOut_laid (os : Os) : laidMet Tryd.prog Rows.lineOutRow.laid (((World.doorLaid Tryd.prog 24 os)).forCall (fun _ _ => 0) ⟨#[], lineOutArgs, []⟩).memory :=
  laidMet_of_run' 8 (by kernel_rfl) (by kernel_rfl)
theorem lineOut_reads (os : Os) {H : Type} (enc : TypeId × Value → H) : ∃ places, DataW.whole enc Tryd.prog ((World.doorLaid Tryd.prog 24 os).forCall (fun _ _ => 0) ⟨#[], lineOutArgs, []⟩).memory Tryd.f4.params.toList Rows.lineOutSpec.vars false lineOutArgs.toList 8 = some ([.lit (.int .i64 0), .nil], [], places) :=
  ⟨[], by kernel_rfl⟩
set_option maxRecDepth 100000 in
theorem lineOut_lifted (os : Os) (started : os.Started) (H : Type) (enc : TypeId × Value → H) (F : Stop.Interp) :
    ReturnsInHanded {} Tryd.checked os 4 .any ((OpenSpec.ofChange Rows.lineOutSpec).preRow enc Tryd.prog Tryd.f4 Rows.lineOutRow.domain false Rows.lineOutRow.laid) (((OpenSpec.ofChange Rows.lineOutSpec).at F).post enc Tryd.prog Tryd.f4 false true false false) := by
  obtain ⟨places, hx⟩ := lineOut_reads os enc
  refine returnsInHanded_of_row (C := Tryd.checked) (s := OpenSpec.ofChange Rows.lineOutSpec) Tryd.own started (by kernel_rfl) Tryd.func4
    (witness_row_atRef (enc := enc) (C := Tryd.checked) false (World.doorLaid Tryd.prog 24 os) lineOutArgs rfl (by kernel_rfl) (by kernel_rfl) (by kernel_rfl)
      (OpenSpec.preRow_of_cond 8 hx (by kernel_rfl) (fun k hk => by cases hk) (by kernel_rfl) (lineOut_laid os))) ?_
  intro W base args ds gs before hval0 hW _ _ _ hL _ _
  have hval : ∀ (j : Nat) t v, Tryd.f4.params[j]? = some t → args[j]? = some v → Value.okWide Tryd.prog W .any base t v := hval0
  have hW' := hW
  obtain ⟨p, q, hA0, hV, rfl, hfz, hnd⟩ := hW
  have hA : DataW.TrodAll enc Tryd.prog W 0 (fun _ => true) true Tryd.f4.params.toList args.toList ds p := hA0
  rw [Tryd.params4] at hA hval
  obtain ⟨v0, vs0, d0, ds0, p0, q0, hargs, rfl, rfl, h0, r0⟩ := trodAll_cons hA
  obtain ⟨v1, vs1, d1, ds1, p1, q1, rfl, rfl, rfl, h1, r1⟩ := trodAll_cons r0
  obtain ⟨rfl, rfl, rfl⟩ := trodAll_nil r1
  obtain rfl : args = #[v0, v1] := by cases args; simp_all
  obtain ⟨rfl, rfl⟩ := trodVars_none hV
  obtain ⟨n0, rfl, b0, c0⟩ := cell_i64 Tryd.underlying3 (hval 0 3 v0 rfl rfl)
  obtain ⟨f1, hf1⟩ := h1
  obtain ⟨n1, w1, hcs1, b1, c1⟩ := open_dos hf1
  obtain ⟨a1, l1, k1, rfl⟩ := okWide_slice Tryd.underlying36 (hval 1 36 v1 rfl rfl)
  obtain rfl : w1 = .slice a1 l1 k1 := by simpa [Value.cells] using hcs1.symm
  clear hA0 hval0
  refine (lineOut_any n0 _ n1 W b1 c1).mono fun e W' ⟨he, hf⟩ => ?_
  subst he
  exact ⟨_, rfl, law_post hW' hf Tryd.laidOut (by kernel_rfl) rfl rfl Tryd.underlying4 rfl rfl rfl⟩

theorem lineOut_holds : Rows.LineOutSaid :=
  OpenClaim.holds_of_cond 4 Tryd.f4 rfl rfl rfl rfl rfl rfl rfl ⟨rfl, rfl, rfl, rfl, rfl⟩ rfl rfl rfl rfl rfl (by kernel_rfl) Tryd.func4 (by kernel_rfl)
    (of_decide_eq_true (by kernel_rfl)) (by unfold Func.isWrapper; first | (rw [if_pos (by decide +kernel)]; kernel_rfl) | (rw [if_neg (by decide +kernel)]; exact ⟨rfl, rfl⟩))
    (fun os started H enc _ F => by rw [OpenClaim.pre_eq_preRow]; exact lineOut_lifted os started H enc F)

/-- No parameter wants a stand-in. -/
theorem lineOut_plain (f : FuncId) (fn : Func) (hf : Tryd.pinned.checked.prog.funcNamed "inglenook/inglenooklaw25.LineOut" = some f) (hfn : Tryd.pinned.checked.prog.funcs[f]? = some fn) :
    false = Tryd.pinned.checked.prog.looks [] ∧ ∀ (j : Nat) t, fn.params[j]? = some t → Tryd.pinned.checked.prog.wantsStandIn t = false := by
  obtain rfl : f = 4 := Option.some.inj ((show Tryd.prog.funcNamed "inglenook/inglenooklaw25.LineOut" = some 4 by kernel_rfl).symm.trans hf) |>.symm
  obtain rfl : fn = Tryd.f4 := (Option.some.inj (Tryd.func4.symm.trans hfn)).symm
  refine ⟨by kernel_rfl, fun j t ht => ?_⟩
  rw [Tryd.params4] at ht
  have hm : t ∈ [3, 36] := by simpa using Array.mem_of_getElem? ht
  have hall : ([3, 36].all fun u => !Tryd.prog.wantsStandIn u) = true := by kernel_rfl
  exact (show Tryd.prog.wantsStandIn t = false by simpa using List.all_eq_true.1 hall t hm)

theorem lineOut_card : Rows.LineOutCardSaid :=
  Claim7.holds_tied_plain_at .later [] _ _ _ _ lineOut_holds (fun _ h => by cases h) (by kernel_rfl) (fun _ h => by cases h) lineOut_row_tie rfl ⟨rfl, rfl⟩ (by kernel_rfl) rfl lineOut_plain (by kernel_rfl)
#print axioms lineOut_card
end Go.Proofs.YtlfiljebfnejbaaDoor
