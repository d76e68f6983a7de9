/- DiskMoves: for every input the law returns true, where api's errors read as the program lays them. The walk is DiskMoves's; here it is carried to the given row and its card. -/
import Derived.Test.YtlhbgobjhddhlaaDoorCards
import Derived.Test.YtlhbgobjhddhlaaDoorTie
import Derived.Test.YtlhbgobjhddhlaaDoorDiskMoves
import Derived.Test.YtlhbgobjhddhlaaDoorLaid6
import Derived.JoinedCond
import Derived.LaidMore
import Derived.Deep.DeepHandedRow
import Derived.Deep.DeepWitnessRowRef
import Derived.SevenTiedAt
namespace Go.Proofs.YtlhbgobjhddhlaaDoor
open Go.ChangeShapes Go.WideShapes Go.ChangeAt Go.RowKit

noncomputable def diskMovesArgs : Array Value := #[.slice none 0 0, .slice none 0 0, .bool false, .int .i64 0]
theorem diskMoves_laid (os : Os) : laidMet Tryd.prog Rows.diskMovesRow.laid (((World.doorLaid Tryd.prog 332 os)).forCall (fun _ _ => 0) ⟨#[], diskMovesArgs, []⟩).memory :=
  laidMet_of_run' 8 (by kernel_rfl) (by kernel_rfl)
theorem diskMoves_reads (os : Os) {H : Type} (enc : TypeId × Value → H) : ∃ places, DataW.whole enc Tryd.prog ((World.doorLaid Tryd.prog 332 os).forCall (fun _ _ => 0) ⟨#[], diskMovesArgs, []⟩).memory Tryd.f9.params.toList Rows.diskMovesSpec.vars false diskMovesArgs.toList 8 = some ([.nil, .nil, .lit (.bool false), .lit (.int .i64 0)], [], places) :=
  ⟨[], by kernel_rfl⟩
theorem diskMoves_tab (i : Nat) (hi : [4, 5, 6, 7, 8, 9].contains i = true) : TabAt Rows.diskMovesRow.laid ([0, 0, 0, 0, 0, 1, 2, 3, 4, 5, 0, 0, 0, 0, 0, 0, 0].getD i 0) i := by
  have hi' : i = 4 ∨ i = 5 ∨ i = 6 ∨ i = 7 ∨ i = 8 ∨ i = 9 := by simpa using hi
  rcases hi' with rfl | rfl | rfl | rfl | rfl | rfl
  all_goals exact ⟨_, _, rfl, by kernel_rfl, by kernel_rfl⟩

set_option maxRecDepth 100000 in
theorem diskMoves_lifted (os : Os) (started : os.Started) (H : Type) (enc : TypeId × Value → H) (F : Stop.Interp) :
    ReturnsInHanded {} Tryd.checked os 9 .any ((OpenSpec.ofChange Rows.diskMovesSpec).preRow enc Tryd.prog Tryd.f9 Rows.diskMovesRow.domain false Rows.diskMovesRow.laid) (((OpenSpec.ofChange Rows.diskMovesSpec).at F).post enc Tryd.prog Tryd.f9 false true false false) := by
  obtain ⟨places, hx⟩ := diskMoves_reads os enc
  refine returnsInHanded_of_row (C := Tryd.checked) (s := OpenSpec.ofChange Rows.diskMovesSpec) Tryd.own started (by kernel_rfl) Tryd.func9
    (witness_row_atRef (enc := enc) (C := Tryd.checked) false (World.doorLaid Tryd.prog 332 os) diskMovesArgs rfl (by kernel_rfl) (by kernel_rfl) (by kernel_rfl)
      (OpenSpec.preRow_of_cond 8 hx (by kernel_rfl) (fun k hk => by cases hk) (by kernel_rfl) (diskMoves_laid os))) ?_
  intro W base args ds gs before hval0 hW _ _ _ hL _ _
  have hval : ∀ (j : Nat) t v, Tryd.f9.params[j]? = some t → args[j]? = some v → Value.okWide Tryd.prog W .any base t v := hval0
  have hW' := hW
  obtain ⟨p, q, hA0, hV, rfl, hfz, hnd⟩ := hW
  have hA : DataW.TrodAll enc Tryd.prog W 0 (fun _ => true) true Tryd.f9.params.toList args.toList ds p := hA0
  rw [Tryd.params9] at hA hval
  obtain ⟨v0, vs0, d0, ds0, p0, q0, hargs, rfl, rfl, h0, r0⟩ := trodAll_cons hA
  obtain ⟨v1, vs1, d1, ds1, p1, q1, rfl, rfl, rfl, h1, r1⟩ := trodAll_cons r0
  obtain ⟨v2, vs2, d2, ds2, p2, q2, rfl, rfl, rfl, h2, r2⟩ := trodAll_cons r1
  obtain ⟨v3, vs3, d3, ds3, p3, q3, rfl, rfl, rfl, h3, r3⟩ := trodAll_cons r2
  obtain ⟨rfl, rfl, rfl⟩ := trodAll_nil r3
  obtain rfl : args = #[v0, v1, v2, v3] := by cases args; simp_all
  obtain ⟨rfl, rfl⟩ := trodVars_none hV
  obtain ⟨a0, l0, c0, rfl⟩ := okWide_slice Tryd.underlying30 (hval 0 30 v0 rfl rfl)
  obtain ⟨n0, b0⟩ := open_bs Tryd.underlying30 Tryd.underlying5 (by kernel_rfl) h0
  obtain ⟨a1, l1, c1, rfl⟩ := okWide_slice Tryd.underlying30 (hval 1 30 v1 rfl rfl)
  obtain ⟨n1, b1⟩ := open_bs Tryd.underlying30 Tryd.underlying5 (by kernel_rfl) h1
  obtain ⟨n2, rfl⟩ := cell_bool Tryd.underlying4 (hval 2 4 v2 rfl rfl)
  obtain ⟨n3, rfl, b3, c3⟩ := cell_i64 Tryd.underlying3 (hval 3 3 v3 rfl rfl)
  clear hA0 hval0
  obtain ⟨pa, hE⟩ := of_laid6 _ [0, 0, 0, 0, 0, 1, 2, 3, 4, 5, 0, 0, 0, 0, 0, 0, 0] (by kernel_rfl) diskMoves_tab hL
  refine (diskMoves_any pa _ _ n0 n1 n2 n3 b3 c3 W b0 b1 hE).mono fun e W' ⟨he, hf⟩ => ?_
  subst he
  exact ⟨_, rfl, law_post hW' hf Tryd.laidOut (by kernel_rfl) rfl rfl Tryd.underlying4 rfl rfl rfl⟩

theorem diskMoves_holds : Rows.DiskMovesSaid :=
  OpenClaim.holds_of_cond 9 Tryd.f9 rfl rfl rfl rfl rfl rfl rfl ⟨rfl, rfl, rfl, rfl, rfl⟩ rfl rfl rfl rfl rfl (by kernel_rfl) Tryd.func9 (by kernel_rfl)
    (of_decide_eq_true (by kernel_rfl)) (by unfold Func.isWrapper; first | (rw [if_pos (by decide +kernel)]; kernel_rfl) | (rw [if_neg (by decide +kernel)]; exact ⟨rfl, rfl⟩))
    (fun os started H enc _ F => by rw [OpenClaim.pre_eq_preRow]; exact diskMoves_lifted os started H enc F)

/-- No parameter wants a stand-in. -/
theorem diskMoves_plain (f : FuncId) (fn : Func) (hf : Tryd.pinned.checked.prog.funcNamed "inglenook/inglenooklaw20.DiskMoves" = some f) (hfn : Tryd.pinned.checked.prog.funcs[f]? = some fn) :
    true = Tryd.pinned.checked.prog.looks [] ∧ ∀ (j : Nat) t, fn.params[j]? = some t → Tryd.pinned.checked.prog.wantsStandIn t = false := by
  obtain rfl : f = 9 := Option.some.inj ((show Tryd.prog.funcNamed "inglenook/inglenooklaw20.DiskMoves" = some 9 by kernel_rfl).symm.trans hf) |>.symm
  obtain rfl : fn = Tryd.f9 := (Option.some.inj (Tryd.func9.symm.trans hfn)).symm
  refine ⟨by kernel_rfl, fun j t ht => ?_⟩
  rw [Tryd.params9] at ht
  have hm : t ∈ [30, 30, 4, 3] := by simpa using Array.mem_of_getElem? ht
  have hall : ([30, 30, 4, 3].all fun u => !Tryd.prog.wantsStandIn u) = true := by kernel_rfl
  exact (show Tryd.prog.wantsStandIn t = false by simpa using List.all_eq_true.1 hall t hm)

theorem diskMoves_card : Rows.DiskMovesCardSaid :=
  Claim7.holds_tied_plain_at .later [] _ _ _ _ diskMoves_holds (fun _ h => by cases h) (by kernel_rfl) (fun _ h => by cases h) diskMoves_row_tie rfl ⟨rfl, rfl⟩ (by kernel_rfl) rfl diskMoves_plain (by kernel_rfl)
#print axioms diskMoves_card
end Go.Proofs.YtlhbgobjhddhlaaDoor
