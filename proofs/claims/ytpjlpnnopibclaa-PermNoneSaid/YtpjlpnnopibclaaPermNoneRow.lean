/- PermNone: for every input the law returns true; no condition. The walk is PermNone's; here it is carried to the given row. -/
import Derived.Test.YtpjlpnnopibclaaPermNone
import Derived.Test.YtpjlpnnopibclaaRow
namespace Go.Proofs.Ytpjlpnnopibclaa
open Go.ChangeShapes Go.WideShapes Go.ChangeAt Go.RowKit

set_option maxRecDepth 100000 in
theorem permNone_lifted (os : Os) (started : os.Started) (H : Type) (enc : TypeId × Value → H) :
    ReturnsInHanded {} Try.checked os 6 .any (Rows.permNoneSpec.pre6 enc Try.prog Try.f6 Rows.permNoneRow.domain false) (Rows.permNoneSpec.post enc Try.prog Try.f6 false true false false) := by
  refine returnsInHanded_of_change (C := Try.checked) Try.own started (by kernel_rfl) Try.func6
    (ChangeSpec.witness6 (enc := enc) (C := Try.checked) false ⟨#[], #[.int .i64 0, .int .i64 0, .int .i64 0, .bool false], []⟩ 8 (by kernel_rfl) (by kernel_rfl) (by kernel_rfl) (by kernel_rfl)) ?_
  intro W base args ds gs before hval0 hW hcnd _
  have hval : ∀ (j : Nat) t v, Try.f6.params[j]? = some t → args[j]? = some v → Value.okWide Try.prog W .any base t v := hval0
  have hW' := hW
  obtain ⟨p, q, hA0, hV, rfl, hfz, hnd⟩ := hW
  have hA : DataW.TrodAll enc Try.prog W 0 (fun _ => true) true Try.f6.params.toList args.toList ds p := hA0
  rw [Try.params6] at hA hval
  obtain ⟨l1, l2⟩ := trodAll_len _ _ _ _ hA
  obtain ⟨v0, v1, v2, v3, e1⟩ := len4 l1
  obtain ⟨d0, d1, d2, d3, rfl⟩ := len4 l2
  obtain rfl : args = #[v0, v1, v2, v3] := by cases args; simp_all
  obtain ⟨rfl, rfl⟩ := trodVars_none hV
  obtain ⟨n0, rfl, b0, c0⟩ := cell_i64 Try.underlying3 (hval 0 3 v0 rfl rfl)
  obtain ⟨n1, rfl, b1, c1⟩ := cell_i64 Try.underlying3 (hval 1 3 v1 rfl rfl)
  obtain ⟨n2, rfl, b2, c2⟩ := cell_i64 Try.underlying3 (hval 2 3 v2 rfl rfl)
  obtain ⟨n3, rfl⟩ := cell_bool Try.underlying4 (hval 3 4 v3 rfl rfl)
  clear hA0 hval0
  refine (permNone_any n0 n1 n2 n3 W b2 c2).mono fun e W' ⟨he, hf⟩ => ?_
  subst he
  exact ⟨_, rfl, law_post hW' hf Try.laidOut (by kernel_rfl) rfl rfl Try.underlying4 rfl rfl rfl⟩

theorem permNone_holds : Rows.PermNoneSaid :=
  OpenClaim.holds_of_wide 6 Try.f6 rfl rfl rfl rfl rfl rfl rfl ⟨rfl, rfl, rfl, rfl, rfl⟩ rfl rfl rfl rfl rfl (by kernel_rfl) Try.func6 (by kernel_rfl)
    (of_decide_eq_true (by kernel_rfl)) (by unfold Func.isWrapper; first | (rw [if_pos (by decide +kernel)]; kernel_rfl) | (rw [if_neg (by decide +kernel)]; exact ⟨rfl, rfl⟩))
    (fun os started H enc _ => permNone_lifted os started H enc)
#print axioms permNone_holds
end Go.Proofs.Ytpjlpnnopibclaa
