import Derived.Test.YtbegahbagnflnaaGreatDoorCards
import Derived.Test.YtbegahbagnflnaaGreatDoorTie
import Derived.Test.YtbegahbagnflnaaGreatDoorMn24
import Derived.Test.YtbegahbagnflnaaGreatDoorMn18
import Derived.JoinedCond
import Derived.LaidMore
import Derived.Deep.DeepHandedRow
import Derived.Deep.DeepWitnessRowRef
import Derived.SevenTiedAt
set_option linter.unusedSimpArgs false
set_option linter.unusedVariables false
set_option linter.unnecessarySimpa false
namespace Go.Proofs.YtbegahbagnflnaaGreatDoor
open Go.ChangeShapes Go.WideShapes Go.ChangeAt Go.RowKit
noncomputable def codeBytesArgs : Array Value := #[.slice none 0 0, .int .i64 0, .int .i64 0, .int .u8 0]
theorem codeBytes_laid (os : Os) : laidMet Tryz.prog Rows.codeBytesUptoRow.laid (((World.doorLaid Tryz.prog 332 os)).forCall (fun _ _ => 0) ⟨#[], codeBytesArgs, []⟩).memory :=
 laidMet_of_run' 8 (by kernel_rfl) (by kernel_rfl)
theorem codeBytes_reads (os : Os) {H : Type} (enc : TypeId × Value → H) : ∃ places, DataW.whole enc Tryz.prog ((World.doorLaid Tryz.prog 332 os).forCall (fun _ _ => 0) ⟨#[], codeBytesArgs, []⟩).memory Tryz.f3.params.toList Rows.codeBytesSpec.vars false codeBytesArgs.toList 8 = some ([.nil, .lit (.int .i64 0), .lit (.int .i64 0), .lit (.int .u8 0)], [], places) :=
 ⟨[], by kernel_rfl⟩
theorem codeBytes_tab : LaidTab Rows.codeBytesUptoRow.laid [0, 1, 2, 3, 4, 5, 6, 7, 8, 9, 10, 11, 12, 13, 14, 15, 16] := by
 intro i hi
 obtain rfl | rfl | rfl | rfl | rfl | rfl | rfl | rfl | rfl | rfl | rfl | rfl | rfl | rfl | rfl | rfl | rfl : i = 0 ∨ i = 1 ∨ i = 2 ∨ i = 3 ∨ i = 4 ∨ i = 5 ∨ i = 6 ∨ i = 7 ∨ i = 8 ∨ i = 9 ∨ i = 10 ∨ i = 11 ∨ i = 12 ∨ i = 13 ∨ i = 14 ∨ i = 15 ∨ i = 16 := by omega
 all_goals exact ⟨_, _, rfl, by kernel_rfl, by kernel_rfl⟩
set_option maxRecDepth 100000 in
theorem codeBytes_lifted (os : Os) (started : os.Started) (H : Type) (enc : TypeId × Value → H) (F : Stop.Interp) :
  ReturnsInHanded {} Tryz.checked os 3 .any ((Rows.OpenSpec.upto Rows.codeBytesSpec).preRow enc Tryz.prog Tryz.f3 Rows.codeBytesUptoRow.domain false Rows.codeBytesUptoRow.laid) (((Rows.OpenSpec.upto Rows.codeBytesSpec).at F).post enc Tryz.prog Tryz.f3 false true false false) := by
 obtain ⟨places, hx⟩ := codeBytes_reads os enc
 refine returnsInHanded_of_row (C := Tryz.checked) (s := Rows.OpenSpec.upto Rows.codeBytesSpec) Tryz.own started (by kernel_rfl) Tryz.func3
  (witness_row_atRef (enc := enc) (C := Tryz.checked) false (World.doorLaid Tryz.prog 332 os) codeBytesArgs rfl (by kernel_rfl) (by kernel_rfl) (by kernel_rfl)
   (OpenSpec.preRow_of_cond 8 hx (by kernel_rfl) (fun k hk => by cases hk; kernel_rfl) (by kernel_rfl) (codeBytes_laid os))) ?_
 intro W base args ds gs before hval0 hW _ hk _ hL _ _
 have hval : ∀ (j : Nat) t v, Tryz.f3.params[j]? = some t → args[j]? = some v → Value.okWide Tryz.prog W .any base t v := hval0
 have hW' := hW
 obtain ⟨p, q, hA0, hV, rfl, hfz, hnd⟩ := hW
 have hA : DataW.TrodAll enc Tryz.prog W 0 (fun _ => true) true Tryz.f3.params.toList args.toList ds p := hA0
 rw [Tryz.params3] at hA hval
 obtain ⟨v0, vs0, d0, ds0, p0, q0, hargs, rfl, rfl, h0, r0⟩ := trodAll_cons hA
 obtain ⟨v1, vs1, d1, ds1, p1, q1, rfl, rfl, rfl, h1, r1⟩ := trodAll_cons r0
 obtain ⟨v2, vs2, d2, ds2, p2, q2, rfl, rfl, rfl, h2, r2⟩ := trodAll_cons r1
 obtain ⟨v3, vs3, d3, ds3, p3, q3, rfl, rfl, rfl, h3, r3⟩ := trodAll_cons r2
 obtain ⟨rfl, rfl, rfl⟩ := trodAll_nil r3
 obtain rfl : args = #[v0, v1, v2, v3] := by cases args; simp_all
 obtain ⟨rfl, rfl⟩ := trodVars_none hV
 obtain ⟨f0, hf0⟩ := h0
 obtain ⟨n0, w0, hcs0, b0, c0, e0⟩ := open_nodes (fun m _ => open_node W m) hf0
 obtain ⟨a0, l0, k0, rfl⟩ := okWide_slice Tryz.underlying22 (hval 0 22 v0 rfl rfl)
 obtain rfl : w0 = .slice a0 l0 k0 := by simpa [Value.cells] using hcs0.symm
 have c0 : szL n0 ≤ Rows.uptoBulk d0 := c0
 obtain ⟨n1, rfl, b1, c1⟩ := cell_i64 Tryz.underlying3 (hval 1 3 v1 rfl rfl)
 obtain ⟨n2, rfl, b2, c2⟩ := cell_i64 Tryz.underlying3 (hval 2 3 v2 rfl rfl)
 obtain ⟨n3, rfl, b3⟩ := cell_u8 Tryz.underlying5 (hval 3 5 v3 rfl rfl)
 clear hA0 hval0
 have hb : Rows.uptoBulkAll [d0, d1, d2, d3] ≤ 1048576 := of_decide_eq_true (hk _ rfl)
 simp only [Rows.uptoBulkAll] at hb
 obtain ⟨pa, hE⟩ := of_laidx _ [0, 1, 2, 3, 4, 5, 6, 7, 8, 9, 10, 11, 12, 13, 14, 15, 16] (by kernel_rfl) (by decide +kernel) codeBytes_tab hL
 refine (codeBytes_any pa _ n0 n1 n2 n3 W b0 (by omega) (rngL_of e0) b1 c1 b2 c2 b3 hE).mono fun e W' ⟨he, hf⟩ => ?_
 subst he
 exact ⟨_, rfl, law_post hW' hf Tryz.laidOut (by kernel_rfl) rfl rfl Tryz.underlying4 rfl rfl rfl⟩
theorem codeBytes_holds : Rows.CodeBytesUptoSaid :=
 OpenClaim.holds_of_cond 3 Tryz.f3 rfl rfl rfl rfl rfl rfl rfl ⟨rfl, rfl, rfl, rfl, rfl⟩ rfl rfl rfl rfl rfl (by kernel_rfl) Tryz.func3 (by kernel_rfl)
  (of_decide_eq_true (by kernel_rfl)) (by unfold Func.isWrapper; first | (rw [if_pos (by decide +kernel)]; kernel_rfl) | (rw [if_neg (by decide +kernel)]; exact ⟨rfl, rfl⟩))
  (fun os started H enc _ F => by rw [OpenClaim.pre_eq_preRow]; exact codeBytes_lifted os started H enc F)
theorem codeBytes_plain (f : FuncId) (fn : Func) (hf : Tryz.pinned.checked.prog.funcNamed "inglenook/inglenooklaw18.CodeBytes" = some f) (hfn : Tryz.pinned.checked.prog.funcs[f]? = some fn) :
  true = Tryz.pinned.checked.prog.looks [] ∧ ∀ (j : Nat) t, fn.params[j]? = some t → Tryz.pinned.checked.prog.wantsStandIn t = false := by
 obtain rfl : f = 3 := Option.some.inj ((show Tryz.prog.funcNamed "inglenook/inglenooklaw18.CodeBytes" = some 3 by kernel_rfl).symm.trans hf) |>.symm
 obtain rfl : fn = Tryz.f3 := (Option.some.inj (Tryz.func3.symm.trans hfn)).symm
 refine ⟨by kernel_rfl, fun j t ht => ?_⟩
 rw [Tryz.params3] at ht
 have hm : t ∈ [22, 3, 3, 5] := by simpa using Array.mem_of_getElem? ht
 have hall : ([22, 3, 3, 5].all fun u => !Tryz.prog.wantsStandIn u) = true := by kernel_rfl
 exact (show Tryz.prog.wantsStandIn t = false by simpa using List.all_eq_true.1 hall t hm)
theorem codeBytes_card : Rows.CodeBytesUptoCardSaid :=
 Claim7.holds_tied_plain_at .later [] _ _ _ _ codeBytes_holds (fun _ h => by cases h) (by kernel_rfl) (fun _ h => by cases h) codeBytesUpto_row_tie rfl ⟨rfl, rfl⟩ (by kernel_rfl) rfl codeBytes_plain (by kernel_rfl)
#print axioms codeBytes_card
end Go.Proofs.YtbegahbagnflnaaGreatDoor
