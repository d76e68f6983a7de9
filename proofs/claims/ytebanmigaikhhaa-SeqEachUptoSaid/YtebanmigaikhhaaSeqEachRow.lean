/- SeqEach: for every input of bulk at most 1,048,576 the law returns true. The walk is SeqEach's; here it is carried to the given row. -/
import Derived.Test.YtebanmigaikhhaaSeqEach
import Derived.Test.YtebanmigaikhhaaValRow
import Derived.JoinedCond
namespace Go.Proofs.Ytebanmigaikhhaa
open Go.ChangeShapes Go.WideShapes Go.ChangeAt Go.RowKit

set_option maxRecDepth 100000 in
theorem seqEach_lifted (os : Os) (started : os.Started) (H : Type) (enc : TypeId × Value → H) (F : Stop.Interp) :
    ReturnsInHanded {} Try.checked os 3 .any ((Rows.OpenSpec.upto Rows.seqEachSpec).pre6 enc Try.prog Try.f3 Rows.seqEachUptoRow.domain false) (((Rows.OpenSpec.upto Rows.seqEachSpec).at F).post enc Try.prog Try.f3 false true false false) := by
  refine returnsInHanded_of_cond (C := Try.checked) (s := Rows.OpenSpec.upto Rows.seqEachSpec) (k := Rows.uptoSmall) rfl Try.own started (by kernel_rfl) Try.func3
    (OpenSpec.witness (enc := enc) (C := Try.checked) (s := Rows.OpenSpec.upto Rows.seqEachSpec) (k := Rows.uptoSmall) rfl false ⟨#[], #[.slice none 0 0, .int .i64 0], []⟩ 8 (by kernel_rfl) (by kernel_rfl) (by kernel_rfl)
      (x := ([.nil, .lit (.int .i64 0)], [], [])) (by kernel_rfl) rfl (by kernel_rfl)) ?_
  intro W base args ds gs before hval0 hW _ hk _
  have hval : ∀ (j : Nat) t v, Try.f3.params[j]? = some t → args[j]? = some v → Value.okWide Try.prog W .any base t v := hval0
  have hW' := hW
  obtain ⟨p, q, hA0, hV, rfl, hfz, hnd⟩ := hW
  have hA : DataW.TrodAll enc Try.prog W 0 (fun _ => true) true Try.f3.params.toList args.toList ds p := hA0
  rw [Try.params3] at hA hval
  obtain ⟨v0, vs0, d0, ds0, p0, q0, hargs, rfl, rfl, h0, r0⟩ := trodAll_cons hA
  obtain ⟨v1, vs1, d1, ds1, p1, q1, rfl, rfl, rfl, h1, r1⟩ := trodAll_cons r0
  obtain ⟨rfl, rfl, rfl⟩ := trodAll_nil r1
  obtain rfl : args = #[v0, v1] := by cases args; simp_all
  obtain ⟨rfl, rfl⟩ := trodVars_none hV
  obtain ⟨n1, rfl, b1, c1⟩ := cell_i64 Try.underlying3 (hval 1 3 v1 rfl rfl)
  obtain ⟨fuel0, hf0⟩ := h0
  obtain ⟨l0, e0, hcs0, hl0, hs0, hw0⟩ := open_slice (fun m _ => open_value W m) hf0
  obtain ⟨aa0, ll0, cc0, rfl⟩ := okWide_slice Try.underlying22 (hval 0 22 v0 rfl rfl)
  obtain rfl : e0 = .slice aa0 ll0 cc0 := by simpa [Value.cells] using hcs0.symm
  have hs0 : sizeL l0 ≤ Rows.uptoBulk d0 := hs0
  clear hA0 hval0
  have hb : Rows.uptoBulkAll [d0, d1] ≤ 1048576 := of_decide_eq_true hk
  simp only [Rows.uptoBulkAll] at hb
  refine (seqEach_any _ l0 n1 W hl0 (by omega) b1 c1).mono fun e W' ⟨he, hf⟩ => ?_
  subst he
  exact ⟨_, rfl, law_post hW' hf Try.laidOut (by kernel_rfl) rfl rfl Try.underlying4 rfl rfl rfl⟩

theorem seqEach_holds : Rows.SeqEachUptoSaid :=
  OpenClaim.holds_of_cond 3 Try.f3 rfl rfl rfl rfl rfl rfl rfl ⟨rfl, rfl, rfl, rfl, rfl⟩ rfl rfl rfl rfl rfl (by kernel_rfl) Try.func3 (by kernel_rfl)
    (of_decide_eq_true (by kernel_rfl)) (by unfold Func.isWrapper; first | (rw [if_pos (by decide +kernel)]; kernel_rfl) | (rw [if_neg (by decide +kernel)]; exact ⟨rfl, rfl⟩))
    (fun os started H enc _ F => seqEach_lifted os started H enc F)
#print axioms seqEach_holds
end Go.Proofs.Ytebanmigaikhhaa
