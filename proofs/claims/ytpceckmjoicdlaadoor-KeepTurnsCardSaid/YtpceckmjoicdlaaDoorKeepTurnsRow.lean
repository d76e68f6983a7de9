/- KeepTurns: for every input the law returns true, where api's errors read as the program lays them. The walk is KeepTurns's; here it is carried to the given row and its card. -/
import Derived.Test.YtpceckmjoicdlaaDoorCards
import Derived.Test.YtpceckmjoicdlaaDoorTie
import Derived.Test.YtpceckmjoicdlaaDoorKeepTurns
import Derived.Test.YtpceckmjoicdlaaDoorLaid
import Derived.JoinedCond
import Derived.LaidMore
import Derived.Deep.DeepHandedRow
import Derived.Deep.DeepWitnessRowRef
import Derived.SevenTiedAt
namespace Go.Proofs.YtpceckmjoicdlaaDoor
open Go.ChangeShapes Go.WideShapes Go.ChangeAt Go.RowKit

noncomputable def keepTurnsArgs : Array Value := #[.int .i64 0, .int .i64 0]
theorem keepTurns_laid (os : Os) : laidMet Tryd.prog Rows.keepTurnsRow.laid (((World.doorLaid Tryd.prog 332 os)).forCall (fun _ _ => 0) ⟨#[], keepTurnsArgs, []⟩).memory :=
  laidMet_of_run' 8 (by kernel_rfl) (by kernel_rfl)
theorem keepTurns_reads (os : Os) {H : Type} (enc : TypeId × Value → H) : ∃ places, DataW.whole enc Tryd.prog ((World.doorLaid Tryd.prog 332 os).forCall (fun _ _ => 0) ⟨#[], keepTurnsArgs, []⟩).memory Tryd.f5.params.toList Rows.keepTurnsSpec.vars false keepTurnsArgs.toList 8 = some ([.lit (.int .i64 0), .lit (.int .i64 0)], [], places) :=
  ⟨[], by kernel_rfl⟩
theorem keepTurns_tab : LaidTab Rows.keepTurnsRow.laid [0, 1, 2, 3, 4, 5, 6, 7, 8, 9, 10, 11, 12, 13, 14, 15, 16] := by
  intro i hi
  obtain rfl | rfl | rfl | rfl | rfl | rfl | rfl | rfl | rfl | rfl | rfl | rfl | rfl | rfl | rfl | rfl | rfl : i = 0 ∨ i = 1 ∨ i = 2 ∨ i = 3 ∨ i = 4 ∨ i = 5 ∨ i = 6 ∨ i = 7 ∨ i = 8 ∨ i = 9 ∨ i = 10 ∨ i = 11 ∨ i = 12 ∨ i = 13 ∨ i = 14 ∨ i = 15 ∨ i = 16 := by omega
  all_goals exact ⟨_, _, rfl, by kernel_rfl, by kernel_rfl⟩

set_option maxRecDepth 100000 in
theorem keepTurns_lifted (os : Os) (started : os.Started) (H : Type) (enc : TypeId × Value → H) (F : Stop.Interp) :
    ReturnsInHanded {} Tryd.checked os 5 .any ((OpenSpec.ofChange Rows.keepTurnsSpec).preRow enc Tryd.prog Tryd.f5 Rows.keepTurnsRow.domain false Rows.keepTurnsRow.laid) (((OpenSpec.ofChange Rows.keepTurnsSpec).at F).post enc Tryd.prog Tryd.f5 false true false false) := by
  obtain ⟨places, hx⟩ := keepTurns_reads os enc
  refine returnsInHanded_of_row (C := Tryd.checked) (s := OpenSpec.ofChange Rows.keepTurnsSpec) Tryd.own started (by kernel_rfl) Tryd.func5
    (witness_row_atRef (enc := enc) (C := Tryd.checked) false (World.doorLaid Tryd.prog 332 os) keepTurnsArgs rfl (by kernel_rfl) (by kernel_rfl) (by kernel_rfl)
      (OpenSpec.preRow_of_cond 8 hx (by kernel_rfl) (fun k hk => by cases hk) (by kernel_rfl) (keepTurns_laid os))) ?_
  intro W base args ds gs before hval0 hW _ _ _ hL _ _
  have hval : ∀ (j : Nat) t v, Tryd.f5.params[j]? = some t → args[j]? = some v → Value.okWide Tryd.prog W .any base t v := hval0
  have hW' := hW
  obtain ⟨p, q, hA0, hV, rfl, hfz, hnd⟩ := hW
  have hA : DataW.TrodAll enc Tryd.prog W 0 (fun _ => true) true Tryd.f5.params.toList args.toList ds p := hA0
  rw [Tryd.params5] at hA hval
  obtain ⟨v0, vs0, d0, ds0, p0, q0, hargs, rfl, rfl, h0, r0⟩ := trodAll_cons hA
  obtain ⟨v1, vs1, d1, ds1, p1, q1, rfl, rfl, rfl, h1, r1⟩ := trodAll_cons r0
  obtain ⟨rfl, rfl, rfl⟩ := trodAll_nil r1
  obtain rfl : args = #[v0, v1] := by cases args; simp_all
  obtain ⟨rfl, rfl⟩ := trodVars_none hV
  obtain ⟨n0, rfl, b0, c0⟩ := cell_i64 Tryd.underlying3 (hval 0 3 v0 rfl rfl)
  obtain ⟨n1, rfl, b1, c1⟩ := cell_i64 Tryd.underlying3 (hval 1 3 v1 rfl rfl)
  clear hA0 hval0
  obtain ⟨pa, hE⟩ := of_laidx _ [0, 1, 2, 3, 4, 5, 6, 7, 8, 9, 10, 11, 12, 13, 14, 15, 16] (by kernel_rfl) (by decide +kernel) keepTurns_tab hL
  refine (keepTurns_any pa n0 n1 b0 c0 b1 c1 W hE).mono fun e W' ⟨he, hf⟩ => ?_
  subst he
  exact ⟨_, rfl, law_post hW' hf Tryd.laidOut (by kernel_rfl) rfl rfl Tryd.underlying4 rfl rfl rfl⟩

theorem keepTurns_holds : Rows.KeepTurnsSaid :=
  OpenClaim.holds_of_cond 5 Tryd.f5 rfl rfl rfl rfl rfl rfl rfl ⟨rfl, rfl, rfl, rfl, rfl⟩ rfl rfl rfl rfl rfl (by kernel_rfl) Tryd.func5 (by kernel_rfl)
    (of_decide_eq_true (by kernel_rfl)) (by unfold Func.isWrapper; first | (rw [if_pos (by decide +kernel)]; kernel_rfl) | (rw [if_neg (by decide +kernel)]; exact ⟨rfl, rfl⟩))
    (fun os started H enc _ F => by rw [OpenClaim.pre_eq_preRow]; exact keepTurns_lifted os started H enc F)

/-- No parameter wants a stand-in. -/
theorem keepTurns_plain (f : FuncId) (fn : Func) (hf : Tryd.pinned.checked.prog.funcNamed "inglenook/inglenooklaw23.KeepTurns" = some f) (hfn : Tryd.pinned.checked.prog.funcs[f]? = some fn) :
    true = Tryd.pinned.checked.prog.looks [] ∧ ∀ (j : Nat) t, fn.params[j]? = some t → Tryd.pinned.checked.prog.wantsStandIn t = false := by
  obtain rfl : f = 5 := Option.some.inj ((show Tryd.prog.funcNamed "inglenook/inglenooklaw23.KeepTurns" = some 5 by kernel_rfl).symm.trans hf) |>.symm
  obtain rfl : fn = Tryd.f5 := (Option.some.inj (Tryd.func5.symm.trans hfn)).symm
  refine ⟨by kernel_rfl, fun j t ht => ?_⟩
  rw [Tryd.params5] at ht
  have hm : t ∈ [3, 3] := by simpa using Array.mem_of_getElem? ht
  have hall : ([3, 3].all fun u => !Tryd.prog.wantsStandIn u) = true := by kernel_rfl
  exact (show Tryd.prog.wantsStandIn t = false by simpa using List.all_eq_true.1 hall t hm)

theorem keepTurns_card : Rows.KeepTurnsCardSaid :=
  Claim7.holds_tied_plain_at .later [] _ _ _ _ keepTurns_holds (fun _ h => by cases h) (by kernel_rfl) (fun _ h => by cases h) keepTurns_row_tie rfl ⟨rfl, rfl⟩ (by kernel_rfl) rfl keepTurns_plain (by kernel_rfl)
#print axioms keepTurns_card
end Go.Proofs.YtpceckmjoicdlaaDoor
