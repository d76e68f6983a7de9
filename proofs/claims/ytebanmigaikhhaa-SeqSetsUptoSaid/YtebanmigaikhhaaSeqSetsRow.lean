/- SeqSets: for every input of bulk at most 1,048,576 the law returns true. The walk is SeqSets's; here it is carried to the given row. -/
import Derived.Test.YtebanmigaikhhaaSeqSets
import Derived.Test.YtebanmigaikhhaaValRow
import Derived.JoinedCond
namespace Go.Proofs.Ytebanmigaikhhaa
open Go.ChangeShapes Go.WideShapes Go.ChangeAt Go.RowKit

set_option maxRecDepth 100000 in
theorem seqSets_lifted (os : Os) (started : os.Started) (H : Type) (enc : TypeId × Value → H) (F : Stop.Interp) :
    ReturnsInHanded {} Try.checked os 7 .any ((Rows.OpenSpec.upto Rows.seqSetsSpec).pre6 enc Try.prog Try.f7 Rows.seqSetsUptoRow.domain false) (((Rows.OpenSpec.upto Rows.seqSetsSpec).at F).post enc Try.prog Try.f7 false true false false) := by
  refine returnsInHanded_of_cond (C := Try.checked) (s := Rows.OpenSpec.upto Rows.seqSetsSpec) (k := Rows.uptoSmall) rfl Try.own started (by kernel_rfl) Try.func7
    (OpenSpec.witness (enc := enc) (C := Try.checked) (s := Rows.OpenSpec.upto Rows.seqSetsSpec) (k := Rows.uptoSmall) rfl false ⟨#[], #[.slice none 0 0, .agg #[.int .i64 0, .int .i64 0, .string .empty, .slice none 0 0]], []⟩ 8 (by kernel_rfl) (by kernel_rfl) (by kernel_rfl)
      (x := ([.nil, .agg [.lit (.int .i64 0), .lit (.int .i64 0), .lit (.string []), .nil]], [], [])) (by kernel_rfl) rfl (by kernel_rfl)) ?_
  intro W base args ds gs before hval0 hW _ hk _
  have hval : ∀ (j : Nat) t v, Try.f7.params[j]? = some t → args[j]? = some v → Value.okWide Try.prog W .any base t v := hval0
  have hW' := hW
  obtain ⟨p, q, hA0, hV, rfl, hfz, hnd⟩ := hW
  have hA : DataW.TrodAll enc Try.prog W 0 (fun _ => true) true Try.f7.params.toList args.toList ds p := hA0
  rw [Try.params7] at hA hval
  obtain ⟨v0, vs0, d0, ds0, p0, q0, hargs, rfl, rfl, h0, r0⟩ := trodAll_cons hA
  obtain ⟨v1, vs1, d1, ds1, p1, q1, rfl, rfl, rfl, h1, r1⟩ := trodAll_cons r0
  obtain ⟨rfl, rfl, rfl⟩ := trodAll_nil r1
  obtain rfl : args = #[v0, v1] := by cases args; simp_all
  obtain ⟨rfl, rfl⟩ := trodVars_none hV
  obtain ⟨fuel0, hf0⟩ := h0
  obtain ⟨l0, e0, hcs0, hl0, hs0, hw0⟩ := open_slice (fun m _ => open_value W m) hf0
  obtain ⟨aa0, ll0, cc0, rfl⟩ := okWide_slice Try.underlying22 (hval 0 22 v0 rfl rfl)
  obtain rfl : e0 = .slice aa0 ll0 cc0 := by simpa [Value.cells] using hcs0.symm
  have hs0 : sizeL l0 ≤ Rows.uptoBulk d0 := hs0
  obtain ⟨fuel1, hf1⟩ := h1
  obtain ⟨x1, u1, hcs1, hx1, hs1, hw1⟩ := open_value W fuel1 _ _ hf1
  obtain ⟨cs1, rfl, hl41, -⟩ := open_row (by kernel_rfl) (ts := [3, 2, 9, 22]) (by kernel_rfl) (by kernel_rfl) (hval 1 30 v1 rfl rfl)
  obtain rfl : cs1 = u1.toList := by simpa [Value.cells] using hcs1
  have hs1 : x1.size ≤ Rows.uptoBulk d1 := hs1
  clear hA0 hval0
  have hb : Rows.uptoBulkAll [d0, d1] ≤ 1048576 := of_decide_eq_true hk
  simp only [Rows.uptoBulkAll] at hb
  refine (seqSets_any l0 x1 _ _ W hl0 hx1 (by omega) (by omega)).mono fun e W' ⟨he, hf⟩ => ?_
  subst he
  exact ⟨_, rfl, law_post hW' hf Try.laidOut (by kernel_rfl) rfl rfl Try.underlying4 rfl rfl rfl⟩

theorem seqSets_holds : Rows.SeqSetsUptoSaid :=
  OpenClaim.holds_of_cond 7 Try.f7 rfl rfl rfl rfl rfl rfl rfl ⟨rfl, rfl, rfl, rfl, rfl⟩ rfl rfl rfl rfl rfl (by kernel_rfl) Try.func7 (by kernel_rfl)
    (of_decide_eq_true (by kernel_rfl)) (by unfold Func.isWrapper; first | (rw [if_pos (by decide +kernel)]; kernel_rfl) | (rw [if_neg (by decide +kernel)]; exact ⟨rfl, rfl⟩))
    (fun os started H enc _ F => seqSets_lifted os started H enc F)
#print axioms seqSets_holds
end Go.Proofs.Ytebanmigaikhhaa
