/- CodeLinesRow: a text whose imports were merged -/
import Derived.Test.YtbegahbagnflnaaDoorCards
import Derived.Test.YtbegahbagnflnaaDoorTie
import Derived.Test.YtbegahbagnflnaaDoorMb21
import Derived.Test.YtbegahbagnflnaaDoorMb20
import Derived.JoinedCond
import Derived.LaidMore
import Derived.Deep.DeepHandedRow
import Derived.Deep.DeepWitnessRowRef
import Derived.SevenTiedAt
set_option linter.unusedSimpArgs false
set_option linter.unusedVariables false
set_option linter.unnecessarySimpa false
namespace Go.Proofs.YtbegahbagnflnaaDoor
open Go.ChangeShapes Go.WideShapes Go.ChangeAt Go.RowKit

noncomputable def codeLinesArgs : Array Value := #[.slice none 0 0]
theorem codeLines_laid (os : Os) : laidMet Tryd.prog Rows.codeLinesUptoRow.laid (((World.doorLaid Tryd.prog 332 os)).forCall (fun _ _ => 0) ⟨#[], codeLinesArgs, []⟩).memory :=
  laidMet_of_run' 8 (by kernel_rfl) (by kernel_rfl)
theorem codeLines_reads (os : Os) {H : Type} (enc : TypeId × Value → H) : ∃ places, DataW.whole enc Tryd.prog ((World.doorLaid Tryd.prog 332 os).forCall (fun _ _ => 0) ⟨#[], codeLinesArgs, []⟩).memory Tryd.f3.params.toList Rows.codeLinesSpec.vars false codeLinesArgs.toList 8 = some ([.nil], [], places) :=
  ⟨[], by kernel_rfl⟩
theorem codeLines_tab (i : Nat) (hi : [2, 3, 4, 5, 11].contains i = true) : TabAt Rows.codeLinesUptoRow.laid ([0, 0, 0, 1, 2, 3, 0, 0, 0, 0, 0, 4, 0, 0, 0, 0, 0].getD i 0) i := by
  have hi' : i = 2 ∨ i = 3 ∨ i = 4 ∨ i = 5 ∨ i = 11 := by simpa using hi
  rcases hi' with rfl | rfl | rfl | rfl | rfl
  all_goals exact ⟨_, _, rfl, by kernel_rfl, by kernel_rfl⟩

set_option maxRecDepth 100000 in
theorem codeLines_lifted (os : Os) (started : os.Started) (H : Type) (enc : TypeId × Value → H) (F : Stop.Interp) :
    ReturnsInHanded {} Tryd.checked os 3 .any ((Rows.OpenSpec.upto Rows.codeLinesSpec).preRow enc Tryd.prog Tryd.f3 Rows.codeLinesUptoRow.domain false Rows.codeLinesUptoRow.laid) (((Rows.OpenSpec.upto Rows.codeLinesSpec).at F).post enc Tryd.prog Tryd.f3 false true false false) := by
  obtain ⟨places, hx⟩ := codeLines_reads os enc
  refine returnsInHanded_of_row (C := Tryd.checked) (s := Rows.OpenSpec.upto Rows.codeLinesSpec) Tryd.own started (by kernel_rfl) Tryd.func3
    (witness_row_atRef (enc := enc) (C := Tryd.checked) false (World.doorLaid Tryd.prog 332 os) codeLinesArgs rfl (by kernel_rfl) (by kernel_rfl) (by kernel_rfl)
      (OpenSpec.preRow_of_cond 8 hx (by kernel_rfl) (fun k hk => by cases hk; kernel_rfl) (by kernel_rfl) (codeLines_laid os))) ?_
  intro W base args ds gs before hval0 hW _ hk _ hL _ _
  have hval : ∀ (j : Nat) t v, Tryd.f3.params[j]? = some t → args[j]? = some v → Value.okWide Tryd.prog W .any base t v := hval0
  have hW' := hW
  obtain ⟨p, q, hA0, hV, rfl, hfz, hnd⟩ := hW
  have hA : DataW.TrodAll enc Tryd.prog W 0 (fun _ => true) true Tryd.f3.params.toList args.toList ds p := hA0
  rw [Tryd.params3] at hA hval
  obtain ⟨v0, vs0, d0, ds0, p0, q0, hargs, rfl, rfl, h0, r0⟩ := trodAll_cons hA
  obtain ⟨rfl, rfl, rfl⟩ := trodAll_nil r0
  obtain rfl : args = #[v0] := by cases args; simp_all
  obtain ⟨rfl, rfl⟩ := trodVars_none hV
  obtain ⟨f0, hf0⟩ := h0
  obtain ⟨n0, w0, hcs0, b0, c0, e0⟩ := open_nodes (fun m _ => open_node W m) hf0
  obtain ⟨a0, l0, k0, rfl⟩ := okWide_slice Tryd.underlying22 (hval 0 22 v0 rfl rfl)
  obtain rfl : w0 = .slice a0 l0 k0 := by simpa [Value.cells] using hcs0.symm
  have c0 : szL n0 ≤ Rows.uptoBulk d0 := c0
  clear hA0 hval0
  have hb : Rows.uptoBulkAll [d0] ≤ 1048576 := of_decide_eq_true (hk _ rfl)
  simp only [Rows.uptoBulkAll] at hb
  obtain ⟨pa, hE⟩ := of_laid5 _ [0, 0, 0, 1, 2, 3, 0, 0, 0, 0, 0, 4, 0, 0, 0, 0, 0] (by kernel_rfl) codeLines_tab hL
  have g2 : 0 < W.heap.size := World.block_lt_of_cell? _ _ (hE.s 2 (by decide))
  have g3 : 2 < W.heap.size := World.block_lt_of_cell? _ _ (hE.s 3 (by decide))
  have g4 : 6 < W.heap.size := World.block_lt_of_cell? _ _ (hE.s 4 (by decide))
  have g11 : 3 < W.heap.size := World.block_lt_of_cell? _ _ (hE.s 11 (by decide))
  have hg : 7 ≤ W.heap.size := by omega
  clear g2 g3 g4 g11
  refine (codeLines_any pa _ n0 W b0 (by omega) hE hg).mono fun e W' ⟨he, hf⟩ => ?_
  subst he
  exact ⟨_, rfl, law_post hW' hf Tryd.laidOut (by kernel_rfl) rfl rfl Tryd.underlying4 rfl rfl rfl⟩

theorem codeLines_holds : Rows.CodeLinesUptoSaid :=
  OpenClaim.holds_of_cond 3 Tryd.f3 rfl rfl rfl rfl rfl rfl rfl ⟨rfl, rfl, rfl, rfl, rfl⟩ rfl rfl rfl rfl rfl (by kernel_rfl) Tryd.func3 (by kernel_rfl)
    (of_decide_eq_true (by kernel_rfl)) (by unfold Func.isWrapper; first | (rw [if_pos (by decide +kernel)]; kernel_rfl) | (rw [if_neg (by decide +kernel)]; exact ⟨rfl, rfl⟩))
    (fun os started H enc _ F => by rw [OpenClaim.pre_eq_preRow]; exact codeLines_lifted os started H enc F)

/-- No parameter wants a stand-in. -/
theorem codeLines_plain (f : FuncId) (fn : Func) (hf : Tryd.pinned.checked.prog.funcNamed "inglenook/inglenooklaw18.CodeLines" = some f) (hfn : Tryd.pinned.checked.prog.funcs[f]? = some fn) :
    true = Tryd.pinned.checked.prog.looks [] ∧ ∀ (j : Nat) t, fn.params[j]? = some t → Tryd.pinned.checked.prog.wantsStandIn t = false := by
  obtain rfl : f = 3 := Option.some.inj ((show Tryd.prog.funcNamed "inglenook/inglenooklaw18.CodeLines" = some 3 by kernel_rfl).symm.trans hf) |>.symm
  obtain rfl : fn = Tryd.f3 := (Option.some.inj (Tryd.func3.symm.trans hfn)).symm
  refine ⟨by kernel_rfl, fun j t ht => ?_⟩
  rw [Tryd.params3] at ht
  have hm : t ∈ [22] := by simpa using Array.mem_of_getElem? ht
  have hall : ([22].all fun u => !Tryd.prog.wantsStandIn u) = true := by kernel_rfl
  exact (show Tryd.prog.wantsStandIn t = false by simpa using List.all_eq_true.1 hall t hm)

theorem codeLines_card : Rows.CodeLinesUptoCardSaid :=
  Claim7.holds_tied_plain_at .later [] _ _ _ _ codeLines_holds (fun _ h => by cases h) (by kernel_rfl) (fun _ h => by cases h) codeLinesUpto_row_tie rfl ⟨rfl, rfl⟩ (by kernel_rfl) rfl codeLines_plain (by kernel_rfl)
#print axioms codeLines_card
end Go.Proofs.YtbegahbagnflnaaDoor
