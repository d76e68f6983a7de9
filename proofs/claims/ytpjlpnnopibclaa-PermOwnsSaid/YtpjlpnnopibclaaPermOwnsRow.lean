/- PermOwns: for every input the law returns true; no condition. The walk is PermOwns'; here it is carried to the given row. -/
import Derived.Test.YtpjlpnnopibclaaPermOwns
import Derived.Test.YtpjlpnnopibclaaRow
namespace Go.Proofs.Ytpjlpnnopibclaa
open Go.ChangeShapes Go.WideShapes Go.ChangeAt Go.RowKit

set_option maxRecDepth 100000 in
theorem permOwns_lifted (os : Os) (started : os.Started) (H : Type) (enc : TypeId × Value → H) :
    ReturnsInHanded {} Try.checked os 7 .any (Rows.permOwnsSpec.pre6 enc Try.prog Try.f7 Rows.permOwnsRow.domain false) (Rows.permOwnsSpec.post enc Try.prog Try.f7 false true false false) := by
  refine returnsInHanded_of_change (C := Try.checked) Try.own started (by kernel_rfl) Try.func7
    (ChangeSpec.witness6 (enc := enc) (C := Try.checked) false ⟨#[], #[.int .i64 0, .int .i64 0, .bool false], []⟩ 8 (by kernel_rfl) (by kernel_rfl) (by kernel_rfl) (by kernel_rfl)) ?_
  intro W base args ds gs before hval0 hW hcnd _
  have hval : ∀ (j : Nat) t v, Try.f7.params[j]? = some t → args[j]? = some v → Value.okWide Try.prog W .any base t v := hval0
  have hW' := hW
  obtain ⟨p, q, hA0, hV, rfl, hfz, hnd⟩ := hW
  have hA : DataW.TrodAll enc Try.prog W 0 (fun _ => true) true Try.f7.params.toList args.toList ds p := hA0
  rw [Try.params7] at hA hval
  obtain ⟨l1, l2⟩ := trodAll_len _ _ _ _ hA
  obtain ⟨v0, v1, v2, e1⟩ := len3 l1
  obtain ⟨d0, d1, d2, rfl⟩ := len3 l2
  obtain rfl : args = #[v0, v1, v2] := by cases args; simp_all
  obtain ⟨rfl, rfl⟩ := trodVars_none hV
  obtain ⟨n0, rfl, b0, c0⟩ := cell_i64 Try.underlying3 (hval 0 3 v0 rfl rfl)
  obtain ⟨n1, rfl, b1, c1⟩ := cell_i64 Try.underlying3 (hval 1 3 v1 rfl rfl)
  obtain ⟨n2, rfl⟩ := cell_bool Try.underlying4 (hval 2 4 v2 rfl rfl)
  clear hA0 hval0
  refine (permOwns_any n0 n1 n2 W b1 c1).mono fun e W' ⟨he, hf⟩ => ?_
  subst he
  exact ⟨_, rfl, law_post hW' hf Try.laidOut (by kernel_rfl) rfl rfl Try.underlying4 rfl rfl rfl⟩

theorem permOwns_holds : Rows.PermOwnsSaid :=
  OpenClaim.holds_of_wide 7 Try.f7 rfl rfl rfl rfl rfl rfl rfl ⟨rfl, rfl, rfl, rfl, rfl⟩ rfl rfl rfl rfl rfl (by kernel_rfl) Try.func7 (by kernel_rfl)
    (of_decide_eq_true (by kernel_rfl)) (by unfold Func.isWrapper; first | (rw [if_pos (by decide +kernel)]; kernel_rfl) | (rw [if_neg (by decide +kernel)]; exact ⟨rfl, rfl⟩))
    (fun os started H enc _ => permOwns_lifted os started H enc)
#print axioms permOwns_holds
end Go.Proofs.Ytpjlpnnopibclaa
