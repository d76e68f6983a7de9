/- KeepHolds: for every input the law returns true, where api's errors read as the program lays them. The walk is KeepHolds's; here it is carried to the given row and its card. -/
import Derived.Test.YtpceckmjoicdlaaDoorCards
import Derived.Test.YtpceckmjoicdlaaDoorTie
import Derived.Test.YtpceckmjoicdlaaDoorKeepHolds
import Derived.Test.YtpceckmjoicdlaaDoorLaid
import Derived.JoinedCond
import Derived.LaidMore
import Derived.Deep.DeepHandedRow
import Derived.Deep.DeepWitnessRowRef
import Derived.SevenTiedAt
namespace Go.Proofs.YtpceckmjoicdlaaDoor
open Go.ChangeShapes Go.WideShapes Go.ChangeAt Go.RowKit

noncomputable def keepHoldsArgs : Array Value := #[.slice none 0 0, .slice none 0 0, .slice none 0 0]
theorem keepHolds_laid (os : Os) : laidMet Tryd.prog Rows.keepHoldsRow.laid (((World.doorLaid Tryd.prog 332 os)).forCall (fun _ _ => 0) ⟨#[], keepHoldsArgs, []⟩).memory :=
  laidMet_of_run' 8 (by kernel_rfl) (by kernel_rfl)
theorem keepHolds_reads (os : Os) {H : Type} (enc : TypeId × Value → H) : ∃ places, DataW.whole enc Tryd.prog ((World.doorLaid Tryd.prog 332 os).forCall (fun _ _ => 0) ⟨#[], keepHoldsArgs, []⟩).memory Tryd.f4.params.toList Rows.keepHoldsSpec.vars false keepHoldsArgs.toList 8 = some ([.nil, .nil, .nil], [], places) :=
  ⟨[], by kernel_rfl⟩
theorem keepHolds_tab : LaidTab Rows.keepHoldsRow.laid [0, 1, 2, 3, 4, 5, 6, 7, 8, 9, 10, 11, 12, 13, 14, 15, 16] := by
  intro i hi
  obtain rfl | rfl | rfl | rfl | rfl | rfl | rfl | rfl | rfl | rfl | rfl | rfl | rfl | rfl | rfl | rfl | rfl : i = 0 ∨ i = 1 ∨ i = 2 ∨ i = 3 ∨ i = 4 ∨ i = 5 ∨ i = 6 ∨ i = 7 ∨ i = 8 ∨ i = 9 ∨ i = 10 ∨ i = 11 ∨ i = 12 ∨ i = 13 ∨ i = 14 ∨ i = 15 ∨ i = 16 := by omega
  all_goals exact ⟨_, _, rfl, by kernel_rfl, by kernel_rfl⟩

set_option maxRecDepth 100000 in
theorem keepHolds_lifted (os : Os) (started : os.Started) (H : Type) (enc : TypeId × Value → H) (F : Stop.Interp) :
    ReturnsInHanded {} Tryd.checked os 4 .any ((OpenSpec.ofChange Rows.keepHoldsSpec).preRow enc Tryd.prog Tryd.f4 Rows.keepHoldsRow.domain false Rows.keepHoldsRow.laid) (((OpenSpec.ofChange Rows.keepHoldsSpec).at F).post enc Tryd.prog Tryd.f4 false true false false) := by
  obtain ⟨places, hx⟩ := keepHolds_reads os enc
  refine returnsInHanded_of_row (C := Tryd.checked) (s := OpenSpec.ofChange Rows.keepHoldsSpec) Tryd.own started (by kernel_rfl) Tryd.func4
    (witness_row_atRef (enc := enc) (C := Tryd.checked) false (World.doorLaid Tryd.prog 332 os) keepHoldsArgs rfl (by kernel_rfl) (by kernel_rfl) (by kernel_rfl)
      (OpenSpec.preRow_of_cond 8 hx (by kernel_rfl) (fun k hk => by cases hk) (by kernel_rfl) (keepHolds_laid os))) ?_
  intro W base args ds gs before hval0 hW _ _ _ hL _ _
  have hval : ∀ (j : Nat) t v, Tryd.f4.params[j]? = some t → args[j]? = some v → Value.okWide Tryd.prog W .any base t v := hval0
  have hW' := hW
  obtain ⟨p, q, hA0, hV, rfl, hfz, hnd⟩ := hW
  have hA : DataW.TrodAll enc Tryd.prog W 0 (fun _ => true) true Tryd.f4.params.toList args.toList ds p := hA0
  rw [Tryd.params4] at hA hval
  obtain ⟨v0, vs0, d0, ds0, p0, q0, hargs, rfl, rfl, h0, r0⟩ := trodAll_cons hA
  obtain ⟨v1, vs1, d1, ds1, p1, q1, rfl, rfl, rfl, h1, r1⟩ := trodAll_cons r0
  obtain ⟨v2, vs2, d2, ds2, p2, q2, rfl, rfl, rfl, h2, r2⟩ := trodAll_cons r1
  obtain ⟨rfl, rfl, rfl⟩ := trodAll_nil r2
  obtain rfl : args = #[v0, v1, v2] := by cases args; simp_all
  obtain ⟨rfl, rfl⟩ := trodVars_none hV
  obtain ⟨a0, l0, c0, rfl⟩ := okWide_slice Tryd.underlying40 (hval 0 40 v0 rfl rfl)
  obtain ⟨n0, b0⟩ := open_bss Tryd.underlying40 Tryd.underlying22 Tryd.underlying5 (by kernel_rfl) (by kernel_rfl) h0
  obtain ⟨a1, l1, c1, rfl⟩ := okWide_slice Tryd.underlying41 (hval 1 41 v1 rfl rfl)
  obtain ⟨n1, b1⟩ := open_isl Tryd.underlying41 Tryd.underlying3 (by kernel_rfl) h1
  obtain ⟨a2, l2, c2, rfl⟩ := okWide_slice Tryd.underlying41 (hval 2 41 v2 rfl rfl)
  obtain ⟨n2, b2⟩ := open_isl Tryd.underlying41 Tryd.underlying3 (by kernel_rfl) h2
  clear hA0 hval0
  obtain ⟨pa, hE⟩ := of_laidx _ [0, 1, 2, 3, 4, 5, 6, 7, 8, 9, 10, 11, 12, 13, 14, 15, 16] (by kernel_rfl) (by decide +kernel) keepHolds_tab hL
  refine (keepHolds_any pa _ _ _ n0 n1 n2 W b0 (isl_split b1).1 (isl_split b1).2 (isl_split b2).1 (isl_split b2).2 hE).mono fun e W' ⟨he, hf⟩ => ?_
  subst he
  exact ⟨_, rfl, law_post hW' hf Tryd.laidOut (by kernel_rfl) rfl rfl Tryd.underlying4 rfl rfl rfl⟩

theorem keepHolds_holds : Rows.KeepHoldsSaid :=
  OpenClaim.holds_of_cond 4 Tryd.f4 rfl rfl rfl rfl rfl rfl rfl ⟨rfl, rfl, rfl, rfl, rfl⟩ rfl rfl rfl rfl rfl (by kernel_rfl) Tryd.func4 (by kernel_rfl)
    (of_decide_eq_true (by kernel_rfl)) (by unfold Func.isWrapper; first | (rw [if_pos (by decide +kernel)]; kernel_rfl) | (rw [if_neg (by decide +kernel)]; exact ⟨rfl, rfl⟩))
    (fun os started H enc _ F => by rw [OpenClaim.pre_eq_preRow]; exact keepHolds_lifted os started H enc F)

/-- No parameter wants a stand-in. -/
theorem keepHolds_plain (f : FuncId) (fn : Func) (hf : Tryd.pinned.checked.prog.funcNamed "inglenook/inglenooklaw23.KeepHolds" = some f) (hfn : Tryd.pinned.checked.prog.funcs[f]? = some fn) :
    true = Tryd.pinned.checked.prog.looks [] ∧ ∀ (j : Nat) t, fn.params[j]? = some t → Tryd.pinned.checked.prog.wantsStandIn t = false := by
  obtain rfl : f = 4 := Option.some.inj ((show Tryd.prog.funcNamed "inglenook/inglenooklaw23.KeepHolds" = some 4 by kernel_rfl).symm.trans hf) |>.symm
  obtain rfl : fn = Tryd.f4 := (Option.some.inj (Tryd.func4.symm.trans hfn)).symm
  refine ⟨by kernel_rfl, fun j t ht => ?_⟩
  rw [Tryd.params4] at ht
  have hm : t ∈ [40, 41, 41] := by simpa using Array.mem_of_getElem? ht
  have hall : ([40, 41, 41].all fun u => !Tryd.prog.wantsStandIn u) = true := by kernel_rfl
  exact (show Tryd.prog.wantsStandIn t = false by simpa using List.all_eq_true.1 hall t hm)

theorem keepHolds_card : Rows.KeepHoldsCardSaid :=
  Claim7.holds_tied_plain_at .later [] _ _ _ _ keepHolds_holds (fun _ h => by cases h) (by kernel_rfl) (fun _ h => by cases h) keepHolds_row_tie rfl ⟨rfl, rfl⟩ (by kernel_rfl) rfl keepHolds_plain (by kernel_rfl)
#print axioms keepHolds_card
end Go.Proofs.YtpceckmjoicdlaaDoor
