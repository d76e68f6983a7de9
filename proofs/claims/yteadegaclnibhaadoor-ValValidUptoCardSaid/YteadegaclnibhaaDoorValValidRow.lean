/- ValValid: for every input of bulk at most 1,048,576 the law returns true, where api's errors read as the program lays them. The walk is ValValid's; here it is carried to the given row and its card. -/
import Derived.Test.YteadegaclnibhaaDoorCards
import Derived.Test.YteadegaclnibhaaDoorTie
import Derived.Test.YteadegaclnibhaaDoorValValid
import Derived.Test.YteadegaclnibhaaDoorLaidErr
import Derived.Test.YteadegaclnibhaaDoorValRow
import Derived.JoinedCond
import Derived.LaidMore
import Derived.Deep.DeepHandedRow
import Derived.Deep.DeepWitnessRowRef
import Derived.SevenTiedAt
namespace Go.Proofs.YteadegaclnibhaaDoor
open Go.ChangeShapes Go.WideShapes Go.ChangeAt Go.RowKit

noncomputable def valValidArgs : Array Value := #[.agg #[.int .i64 0, .int .i64 0, .string .empty, .slice none 0 0]]
theorem valValid_laid (os : Os) : laidMet Tryd.prog Rows.valValidUptoRow.laid (((World.doorLaid Tryd.prog 332 os)).forCall (fun _ _ => 0) ⟨#[], valValidArgs, []⟩).memory :=
  laidMet_of_run' 8 (by kernel_rfl) (by kernel_rfl)
theorem valValid_reads (os : Os) {H : Type} (enc : TypeId × Value → H) : ∃ places, DataW.whole enc Tryd.prog ((World.doorLaid Tryd.prog 332 os).forCall (fun _ _ => 0) ⟨#[], valValidArgs, []⟩).memory Tryd.f3.params.toList Rows.valValidSpec.vars false valValidArgs.toList 8 = some ([.agg [.lit (.int .i64 0), .lit (.int .i64 0), .lit (.string []), .nil]], [], places) :=
  ⟨[], by kernel_rfl⟩

set_option maxRecDepth 100000 in
theorem valValid_lifted (os : Os) (started : os.Started) (H : Type) (enc : TypeId × Value → H) (F : Stop.Interp) :
    ReturnsInHanded {} Tryd.checked os 3 .any ((Rows.OpenSpec.upto Rows.valValidSpec).preRow enc Tryd.prog Tryd.f3 Rows.valValidUptoRow.domain false Rows.valValidUptoRow.laid) (((Rows.OpenSpec.upto Rows.valValidSpec).at F).post enc Tryd.prog Tryd.f3 false true false false) := by
  obtain ⟨places, hx⟩ := valValid_reads os enc
  refine returnsInHanded_of_row (C := Tryd.checked) (s := Rows.OpenSpec.upto Rows.valValidSpec) Tryd.own started (by kernel_rfl) Tryd.func3
    (witness_row_atRef (enc := enc) (C := Tryd.checked) false (World.doorLaid Tryd.prog 332 os) valValidArgs rfl (by kernel_rfl) (by kernel_rfl) (by kernel_rfl)
      (OpenSpec.preRow_of_cond 8 hx (by kernel_rfl) (fun k hk => by cases hk; kernel_rfl) (by kernel_rfl) (valValid_laid os))) ?_
  intro W base args ds gs before hval0 hW _ hk _ hL _ _
  have hval : ∀ (j : Nat) t v, Tryd.f3.params[j]? = some t → args[j]? = some v → Value.okWide Tryd.prog W .any base t v := hval0
  have hW' := hW
  obtain ⟨p, q, hA0, hV, rfl, hfz, hnd⟩ := hW
  have hA : DataW.TrodAll enc Tryd.prog W 0 (fun _ => true) true Tryd.f3.params.toList args.toList ds p := hA0
  rw [Tryd.params3] at hA hval
  obtain ⟨v0, vs0, d0, ds0, p0, q0, hargs, rfl, rfl, h0, r0⟩ := trodAll_cons hA
  obtain ⟨rfl, rfl, rfl⟩ := trodAll_nil r0
  obtain rfl : args = #[v0] := by cases args; simp_all
  obtain ⟨rfl, rfl⟩ := trodVars_none hV
  obtain ⟨fuel, hf0⟩ := h0
  obtain ⟨x, u, hcs, hx, hs, hw⟩ := open_value W fuel _ _ hf0
  obtain ⟨cs0, rfl, hl4, -⟩ := open_row (by kernel_rfl) (ts := [3, 2, 9, 22]) (by kernel_rfl) (by kernel_rfl) (hval 0 24 v0 rfl rfl)
  obtain rfl : cs0 = u.toList := by simpa [Value.cells] using hcs
  have hs : x.size ≤ Rows.uptoBulk d0 := hs
  clear hA0 hval0
  have hb : Rows.uptoBulkAll [d0] ≤ 1048576 := of_decide_eq_true (hk _ rfl)
  simp only [Rows.uptoBulkAll] at hb
  obtain ⟨pa, hE⟩ := of_laid17 hL
  refine (valValid_any x (by omega) _ W _ hx pa hE).mono fun e W' ⟨he, hf⟩ => ?_
  subst he
  exact ⟨_, rfl, law_post hW' hf Tryd.laidOut (by kernel_rfl) rfl rfl Tryd.underlying4 rfl rfl rfl⟩

theorem valValid_holds : Rows.ValValidUptoSaid :=
  OpenClaim.holds_of_cond 3 Tryd.f3 rfl rfl rfl rfl rfl rfl rfl ⟨rfl, rfl, rfl, rfl, rfl⟩ rfl rfl rfl rfl rfl (by kernel_rfl) Tryd.func3 (by kernel_rfl)
    (of_decide_eq_true (by kernel_rfl)) (by unfold Func.isWrapper; first | (rw [if_pos (by decide +kernel)]; kernel_rfl) | (rw [if_neg (by decide +kernel)]; exact ⟨rfl, rfl⟩))
    (fun os started H enc _ F => by rw [OpenClaim.pre_eq_preRow]; exact valValid_lifted os started H enc F)

/-- No parameter wants a stand-in. -/
theorem valValid_plain (f : FuncId) (fn : Func) (hf : Tryd.pinned.checked.prog.funcNamed "inglenook/inglenooklaw1.ValValid" = some f) (hfn : Tryd.pinned.checked.prog.funcs[f]? = some fn) :
    true = Tryd.pinned.checked.prog.looks [] ∧ ∀ (j : Nat) t, fn.params[j]? = some t → Tryd.pinned.checked.prog.wantsStandIn t = false := by
  obtain rfl : f = 3 := Option.some.inj ((show Tryd.prog.funcNamed "inglenook/inglenooklaw1.ValValid" = some 3 by kernel_rfl).symm.trans hf) |>.symm
  obtain rfl : fn = Tryd.f3 := (Option.some.inj (Tryd.func3.symm.trans hfn)).symm
  refine ⟨by kernel_rfl, fun j t ht => ?_⟩
  rw [Tryd.params3] at ht
  have hm : t ∈ [24] := by simpa using Array.mem_of_getElem? ht
  have hall : ([24].all fun u => !Tryd.prog.wantsStandIn u) = true := by kernel_rfl
  exact (show Tryd.prog.wantsStandIn t = false by simpa using List.all_eq_true.1 hall t hm)

theorem valValid_card : Rows.ValValidUptoCardSaid :=
  Claim7.holds_tied_plain_at .later [] _ _ _ _ valValid_holds (fun _ h => by cases h) (by kernel_rfl) (fun _ h => by cases h) valValidUpto_row_tie rfl ⟨rfl, rfl⟩ (by kernel_rfl) rfl valValid_plain (by kernel_rfl)
#print axioms valValid_card
end Go.Proofs.YteadegaclnibhaaDoor
