/- DiskTwins: for every input the law returns true, where api's errors read as the program lays them. The walk is DiskTwins's; here it is carried to the given row and its card. -/
import Derived.Test.YtlhbgobjhddhlaaDoorCards
import Derived.Test.YtlhbgobjhddhlaaDoorTie
import Derived.Test.YtlhbgobjhddhlaaDoorDiskTwins
import Derived.Test.YtlhbgobjhddhlaaDoorLaid6
import Derived.JoinedCond
import Derived.LaidMore
import Derived.Deep.DeepHandedRow
import Derived.Deep.DeepWitnessRowRef
import Derived.SevenTiedAt
namespace Go.Proofs.YtlhbgobjhddhlaaDoor
open Go.ChangeShapes Go.WideShapes Go.ChangeAt Go.RowKit

noncomputable def diskTwinsArgs : Array Value := #[.slice none 0 0, .slice none 0 0]
theorem diskTwins_laid (os : Os) : laidMet Tryd.prog Rows.diskTwinsRow.laid (((World.doorLaid Tryd.prog 332 os)).forCall (fun _ _ => 0) ⟨#[], diskTwinsArgs, []⟩).memory :=
  laidMet_of_run' 8 (by kernel_rfl) (by kernel_rfl)
theorem diskTwins_reads (os : Os) {H : Type} (enc : TypeId × Value → H) : ∃ places, DataW.whole enc Tryd.prog ((World.doorLaid Tryd.prog 332 os).forCall (fun _ _ => 0) ⟨#[], diskTwinsArgs, []⟩).memory Tryd.f10.params.toList Rows.diskTwinsSpec.vars false diskTwinsArgs.toList 8 = some ([.nil, .nil], [], places) :=
  ⟨[], by kernel_rfl⟩
theorem diskTwins_tab (i : Nat) (hi : [4, 5, 6, 7, 8, 9].contains i = true) : TabAt Rows.diskTwinsRow.laid ([0, 0, 0, 0, 0, 1, 2, 3, 4, 5, 0, 0, 0, 0, 0, 0, 0].getD i 0) i := by
  have hi' : i = 4 ∨ i = 5 ∨ i = 6 ∨ i = 7 ∨ i = 8 ∨ i = 9 := by simpa using hi
  rcases hi' with rfl | rfl | rfl | rfl | rfl | rfl
  all_goals exact ⟨_, _, rfl, by kernel_rfl, by kernel_rfl⟩

set_option maxRecDepth 100000 in
theorem diskTwins_lifted (os : Os) (started : os.Started) (H : Type) (enc : TypeId × Value → H) (F : Stop.Interp) :
    ReturnsInHanded {} Tryd.checked os 10 .any ((OpenSpec.ofChange Rows.diskTwinsSpec).preRow enc Tryd.prog Tryd.f10 Rows.diskTwinsRow.domain false Rows.diskTwinsRow.laid) (((OpenSpec.ofChange Rows.diskTwinsSpec).at F).post enc Tryd.prog Tryd.f10 false true false false) := by
  obtain ⟨places, hx⟩ := diskTwins_reads os enc
  refine returnsInHanded_of_row (C := Tryd.checked) (s := OpenSpec.ofChange Rows.diskTwinsSpec) Tryd.own started (by kernel_rfl) Tryd.func10
    (witness_row_atRef (enc := enc) (C := Tryd.checked) false (World.doorLaid Tryd.prog 332 os) diskTwinsArgs rfl (by kernel_rfl) (by kernel_rfl) (by kernel_rfl)
      (OpenSpec.preRow_of_cond 8 hx (by kernel_rfl) (fun k hk => by cases hk) (by kernel_rfl) (diskTwins_laid os))) ?_
  intro W base args ds gs before hval0 hW _ _ _ hL _ _
  have hval : ∀ (j : Nat) t v, Tryd.f10.params[j]? = some t → args[j]? = some v → Value.okWide Tryd.prog W .any base t v := hval0
  have hW' := hW
  obtain ⟨p, q, hA0, hV, rfl, hfz, hnd⟩ := hW
  have hA : DataW.TrodAll enc Tryd.prog W 0 (fun _ => true) true Tryd.f10.params.toList args.toList ds p := hA0
  rw [Tryd.params10] at hA hval
  obtain ⟨v0, vs0, d0, ds0, p0, q0, hargs, rfl, rfl, h0, r0⟩ := trodAll_cons hA
  obtain ⟨v1, vs1, d1, ds1, p1, q1, rfl, rfl, rfl, h1, r1⟩ := trodAll_cons r0
  obtain ⟨rfl, rfl, rfl⟩ := trodAll_nil r1
  obtain rfl : args = #[v0, v1] := by cases args; simp_all
  obtain ⟨rfl, rfl⟩ := trodVars_none hV
  obtain ⟨a0, l0, c0, rfl⟩ := okWide_slice Tryd.underlying22 (hval 0 22 v0 rfl rfl)
  obtain ⟨n0, b0⟩ := open_isl Tryd.underlying22 Tryd.underlying3 (by kernel_rfl) h0
  obtain ⟨a1, l1, c1, rfl⟩ := okWide_slice Tryd.underlying22 (hval 1 22 v1 rfl rfl)
  obtain ⟨n1, b1⟩ := open_isl Tryd.underlying22 Tryd.underlying3 (by kernel_rfl) h1
  clear hA0 hval0
  obtain ⟨pa, hE⟩ := of_laid6 _ [0, 0, 0, 0, 0, 1, 2, 3, 4, 5, 0, 0, 0, 0, 0, 0, 0] (by kernel_rfl) diskTwins_tab hL
  refine (diskTwins_any pa _ _ n0 n1 W (isl_split b0).1 (isl_split b0).2 (isl_split b1).1 (isl_split b1).2 hE).mono fun e W' ⟨he, hf⟩ => ?_
  subst he
  exact ⟨_, rfl, law_post hW' hf Tryd.laidOut (by kernel_rfl) rfl rfl Tryd.underlying4 rfl rfl rfl⟩

theorem diskTwins_holds : Rows.DiskTwinsSaid :=
  OpenClaim.holds_of_cond 10 Tryd.f10 rfl rfl rfl rfl rfl rfl rfl ⟨rfl, rfl, rfl, rfl, rfl⟩ rfl rfl rfl rfl rfl (by kernel_rfl) Tryd.func10 (by kernel_rfl)
    (of_decide_eq_true (by kernel_rfl)) (by unfold Func.isWrapper; first | (rw [if_pos (by decide +kernel)]; kernel_rfl) | (rw [if_neg (by decide +kernel)]; exact ⟨rfl, rfl⟩))
    (fun os started H enc _ F => by rw [OpenClaim.pre_eq_preRow]; exact diskTwins_lifted os started H enc F)

/-- No parameter wants a stand-in. -/
theorem diskTwins_plain (f : FuncId) (fn : Func) (hf : Tryd.pinned.checked.prog.funcNamed "inglenook/inglenooklaw20.DiskTwins" = some f) (hfn : Tryd.pinned.checked.prog.funcs[f]? = some fn) :
    true = Tryd.pinned.checked.prog.looks [] ∧ ∀ (j : Nat) t, fn.params[j]? = some t → Tryd.pinned.checked.prog.wantsStandIn t = false := by
  obtain rfl : f = 10 := Option.some.inj ((show Tryd.prog.funcNamed "inglenook/inglenooklaw20.DiskTwins" = some 10 by kernel_rfl).symm.trans hf) |>.symm
  obtain rfl : fn = Tryd.f10 := (Option.some.inj (Tryd.func10.symm.trans hfn)).symm
  refine ⟨by kernel_rfl, fun j t ht => ?_⟩
  rw [Tryd.params10] at ht
  have hm : t ∈ [22, 22] := by simpa using Array.mem_of_getElem? ht
  have hall : ([22, 22].all fun u => !Tryd.prog.wantsStandIn u) = true := by kernel_rfl
  exact (show Tryd.prog.wantsStandIn t = false by simpa using List.all_eq_true.1 hall t hm)

theorem diskTwins_card : Rows.DiskTwinsCardSaid :=
  Claim7.holds_tied_plain_at .later [] _ _ _ _ diskTwins_holds (fun _ h => by cases h) (by kernel_rfl) (fun _ h => by cases h) diskTwins_row_tie rfl ⟨rfl, rfl⟩ (by kernel_rfl) rfl diskTwins_plain (by kernel_rfl)
#print axioms diskTwins_card
end Go.Proofs.YtlhbgobjhddhlaaDoor
