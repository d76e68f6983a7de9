/- TreeEach: for every input of bulk at most 1,048,576 the law returns true, where api's errors read as the program lays them. The walk is TreeEach's; here it is carried to the given row and its card. -/
import Derived.Test.YteihmagldhmjgaaDoorCards
import Derived.Test.YteihmagldhmjgaaDoorTie
import Derived.Test.YteihmagldhmjgaaDoorEach
import Derived.Test.YteihmagldhmjgaaDoorNodRow
import Derived.Test.YteihmagldhmjgaaDoorFives
import Derived.JoinedCond
import Derived.LaidMore
import Derived.Deep.DeepHandedRow
import Derived.Deep.DeepWitnessRowRef
import Derived.SevenTiedAt
namespace Go.Proofs.YteihmagldhmjgaaDoor
open Go.ChangeShapes Go.WideShapes Go.ChangeAt Go.RowKit

noncomputable def treeEachArgs : Array Value := #[.slice none 0 0, .int .i64 0]
theorem treeEach_laid (os : Os) : laidMet Tryd.prog Rows.treeEachUptoRow.laid (((World.doorLaid Tryd.prog 332 os)).forCall (fun _ _ => 0) ⟨#[], treeEachArgs, []⟩).memory :=
  laidMet_of_run' 8 (by kernel_rfl) (by kernel_rfl)
theorem treeEach_reads (os : Os) {H : Type} (enc : TypeId × Value → H) : ∃ places, DataW.whole enc Tryd.prog ((World.doorLaid Tryd.prog 332 os).forCall (fun _ _ => 0) ⟨#[], treeEachArgs, []⟩).memory Tryd.f6.params.toList Rows.treeEachSpec.vars false treeEachArgs.toList 8 = some ([.nil, .lit (.int .i64 0)], [], places) :=
  ⟨[], by kernel_rfl⟩
theorem treeEach_tab (i : Nat) (hi : [2, 3, 4, 5, 11].contains i = true) : TabAt Rows.treeEachUptoRow.laid ([0, 0, 0, 1, 2, 3, 0, 0, 0, 0, 0, 4, 0, 0, 0, 0, 0].getD i 0) i := by
  have hi' : i = 2 ∨ i = 3 ∨ i = 4 ∨ i = 5 ∨ i = 11 := by simpa using hi
  rcases hi' with rfl | rfl | rfl | rfl | rfl
  all_goals exact ⟨_, _, rfl, by kernel_rfl, by kernel_rfl⟩

set_option maxRecDepth 100000 in
theorem treeEach_lifted (os : Os) (started : os.Started) (H : Type) (enc : TypeId × Value → H) (F : Stop.Interp) :
    ReturnsInHanded {} Tryd.checked os 6 .any ((Rows.OpenSpec.upto Rows.treeEachSpec).preRow enc Tryd.prog Tryd.f6 Rows.treeEachUptoRow.domain false Rows.treeEachUptoRow.laid) (((Rows.OpenSpec.upto Rows.treeEachSpec).at F).post enc Tryd.prog Tryd.f6 false true false false) := by
  obtain ⟨places, hx⟩ := treeEach_reads os enc
  refine returnsInHanded_of_row (C := Tryd.checked) (s := Rows.OpenSpec.upto Rows.treeEachSpec) Tryd.own started (by kernel_rfl) Tryd.func6
    (witness_row_atRef (enc := enc) (C := Tryd.checked) false (World.doorLaid Tryd.prog 332 os) treeEachArgs rfl (by kernel_rfl) (by kernel_rfl) (by kernel_rfl)
      (OpenSpec.preRow_of_cond 8 hx (by kernel_rfl) (fun k hk => by cases hk; kernel_rfl) (by kernel_rfl) (treeEach_laid os))) ?_
  intro W base args ds gs before hval0 hW _ hk _ hL _ _
  have hval : ∀ (j : Nat) t v, Tryd.f6.params[j]? = some t → args[j]? = some v → Value.okWide Tryd.prog W .any base t v := hval0
  have hW' := hW
  obtain ⟨p, q, hA0, hV, rfl, hfz, hnd⟩ := hW
  have hA : DataW.TrodAll enc Tryd.prog W 0 (fun _ => true) true Tryd.f6.params.toList args.toList ds p := hA0
  rw [Tryd.params6] at hA hval
  obtain ⟨v0, vs0, d0, ds0, p0, q0, hargs, rfl, rfl, h0, r0⟩ := trodAll_cons hA
  obtain ⟨v1, vs1, d1, ds1, p1, q1, rfl, rfl, rfl, h1, r1⟩ := trodAll_cons r0
  obtain ⟨rfl, rfl, rfl⟩ := trodAll_nil r1
  obtain rfl : args = #[v0, v1] := by cases args; simp_all
  obtain ⟨rfl, rfl⟩ := trodVars_none hV
  obtain ⟨f0, hf0⟩ := h0
  obtain ⟨n0, w0, hcs0, b0, c0, e0⟩ := open_nodes (fun m _ => open_node W m) hf0
  obtain ⟨a0, l0, k0, rfl⟩ := okWide_slice Tryd.underlying27 (hval 0 27 v0 rfl rfl)
  obtain rfl : w0 = .slice a0 l0 k0 := by simpa [Value.cells] using hcs0.symm
  have c0 : szL n0 ≤ Rows.uptoBulk d0 := c0
  obtain ⟨n1, rfl, b1, c1⟩ := cell_i64 Tryd.underlying3 (hval 1 3 v1 rfl rfl)
  clear hA0 hval0
  have hb : Rows.uptoBulkAll [d0, d1] ≤ 1048576 := of_decide_eq_true (hk _ rfl)
  simp only [Rows.uptoBulkAll] at hb
  obtain ⟨pa, hE⟩ := of_laid5 _ [0, 0, 0, 1, 2, 3, 0, 0, 0, 0, 0, 4, 0, 0, 0, 0, 0] (by kernel_rfl) treeEach_tab hL
  have g2 : 2 < W.heap.size := World.block_lt_of_cell? _ _ (hE.s 2 (by decide))
  have g3 : 0 < W.heap.size := World.block_lt_of_cell? _ _ (hE.s 3 (by decide))
  have g4 : 6 < W.heap.size := World.block_lt_of_cell? _ _ (hE.s 4 (by decide))
  have g11 : 1 < W.heap.size := World.block_lt_of_cell? _ _ (hE.s 11 (by decide))
  have hg : 7 ≤ W.heap.size := by omega
  clear g2 g3 g4 g11
  refine (treeEach_any pa _ n0 n1 W b0 (by omega) b1 c1 hE hg).mono fun e W' ⟨he, hf⟩ => ?_
  subst he
  exact ⟨_, rfl, law_post hW' hf Tryd.laidOut (by kernel_rfl) rfl rfl Tryd.underlying4 rfl rfl rfl⟩

theorem treeEach_holds : Rows.TreeEachUptoSaid :=
  OpenClaim.holds_of_cond 6 Tryd.f6 rfl rfl rfl rfl rfl rfl rfl ⟨rfl, rfl, rfl, rfl, rfl⟩ rfl rfl rfl rfl rfl (by kernel_rfl) Tryd.func6 (by kernel_rfl)
    (of_decide_eq_true (by kernel_rfl)) (by unfold Func.isWrapper; first | (rw [if_pos (by decide +kernel)]; kernel_rfl) | (rw [if_neg (by decide +kernel)]; exact ⟨rfl, rfl⟩))
    (fun os started H enc _ F => by rw [OpenClaim.pre_eq_preRow]; exact treeEach_lifted os started H enc F)

/-- No parameter wants a stand-in. -/
theorem treeEach_plain (f : FuncId) (fn : Func) (hf : Tryd.pinned.checked.prog.funcNamed "inglenook/inglenooklaw7.TreeEach" = some f) (hfn : Tryd.pinned.checked.prog.funcs[f]? = some fn) :
    true = Tryd.pinned.checked.prog.looks [] ∧ ∀ (j : Nat) t, fn.params[j]? = some t → Tryd.pinned.checked.prog.wantsStandIn t = false := by
  obtain rfl : f = 6 := Option.some.inj ((show Tryd.prog.funcNamed "inglenook/inglenooklaw7.TreeEach" = some 6 by kernel_rfl).symm.trans hf) |>.symm
  obtain rfl : fn = Tryd.f6 := (Option.some.inj (Tryd.func6.symm.trans hfn)).symm
  refine ⟨by kernel_rfl, fun j t ht => ?_⟩
  rw [Tryd.params6] at ht
  have hm : t ∈ [27, 3] := by simpa using Array.mem_of_getElem? ht
  have hall : ([27, 3].all fun u => !Tryd.prog.wantsStandIn u) = true := by kernel_rfl
  exact (show Tryd.prog.wantsStandIn t = false by simpa using List.all_eq_true.1 hall t hm)

theorem treeEach_card : Rows.TreeEachUptoCardSaid :=
  Claim7.holds_tied_plain_at .later [] _ _ _ _ treeEach_holds (fun _ h => by cases h) (by kernel_rfl) (fun _ h => by cases h) treeEachUpto_row_tie rfl ⟨rfl, rfl⟩ (by kernel_rfl) rfl treeEach_plain (by kernel_rfl)
#print axioms treeEach_card
end Go.Proofs.YteihmagldhmjgaaDoor
