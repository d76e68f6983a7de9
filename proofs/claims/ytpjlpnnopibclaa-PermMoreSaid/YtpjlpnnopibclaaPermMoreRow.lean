/- PermMore: for every input the law returns true; no condition. The walk is PermMore's; here it is carried to the given row. -/
import Derived.Test.YtpjlpnnopibclaaPermMore
import Derived.Test.YtpjlpnnopibclaaRow
namespace Go.Proofs.Ytpjlpnnopibclaa
open Go.ChangeShapes Go.WideShapes Go.ChangeAt Go.RowKit

theorem cell_one {P : Program} {w : World} {base : Nat} {u : TypeId} {c : Value} (h : Cell.okWide P w .any base u c) : c.oneCell' = true := by
  cases c with
  | agg cs => exfalso; revert h; unfold Cell.okWide Cell.ok; (repeat' split) <;> simp_all
  | tuple cs => exfalso; revert h; unfold Cell.okWide Cell.ok; (repeat' split) <;> simp_all
  | _ => rfl

set_option maxRecDepth 100000 in
theorem permMore_lifted (os : Os) (started : os.Started) (H : Type) (enc : TypeId × Value → H) :
    ReturnsInHanded {} Try.checked os 5 .any (Rows.permMoreSpec.pre6 enc Try.prog Try.f5 Rows.permMoreRow.domain false) (Rows.permMoreSpec.post enc Try.prog Try.f5 false true false false) := by
  refine returnsInHanded_of_change (C := Try.checked) Try.own started (by kernel_rfl) Try.func5
    (ChangeSpec.witness6 (enc := enc) (C := Try.checked) false ⟨#[], #[.agg #[.int .i64 0, .bool false, .bool false], .int .i64 0, .int .i64 0, .agg #[.string ByteArray.empty, .int .i64 0, .int .i64 0, .bool false, .int .i64 0, .int .i64 0, .string ByteArray.empty, .slice none 0 0], .agg #[.string ByteArray.empty, .int .i64 0, .int .i64 0, .string ByteArray.empty, .slice none 0 0], .agg #[.int .i64 0, .int .i64 0, .int .i64 0, .int .i64 0, .int .i64 0, .int .i64 0, .string ByteArray.empty, .slice none 0 0, .slice none 0 0, .slice none 0 0], .agg #[.int .i64 0, .int .i64 0, .int .i64 0, .int .i64 0, .int .i64 0, .int .i64 0, .string ByteArray.empty, .slice none 0 0, .slice none 0 0, .slice none 0 0]], []⟩ 8 (by kernel_rfl) (by kernel_rfl) (by kernel_rfl) (by kernel_rfl)) ?_
  intro W base args ds gs before hval0 hW hcnd _
  have hval : ∀ (j : Nat) t v, Try.f5.params[j]? = some t → args[j]? = some v → Value.okWide Try.prog W .any base t v := hval0
  have hW' := hW
  obtain ⟨p, q, hA0, hV, rfl, hfz, hnd⟩ := hW
  have hA : DataW.TrodAll enc Try.prog W 0 (fun _ => true) true Try.f5.params.toList args.toList ds p := hA0
  rw [Try.params5] at hA hval
  obtain ⟨l1, l2⟩ := trodAll_len _ _ _ _ hA
  obtain ⟨v0, v1, v2, v3, v4, v5, v6, e1⟩ := len7 l1
  obtain ⟨d0, d1, d2, d3, d4, d5, d6, rfl⟩ := len7 l2
  obtain rfl : args = #[v0, v1, v2, v3, v4, v5, v6] := by cases args; simp_all
  obtain ⟨rfl, rfl⟩ := trodVars_none hV
  obtain ⟨cs0, rfl, k0, g0⟩ := open_row (ts := [3, 4, 4]) (by kernel_rfl) (by kernel_rfl) (by kernel_rfl) (hval 0 25 v0 rfl rfl)
  obtain ⟨x0_0, x0_1, x0_2, rfl⟩ := len3 k0
  obtain ⟨x0_0, rfl, _, _⟩ := cell_i64 Try.underlying3 (g0 0 _ _ rfl rfl)
  obtain ⟨x0_1, rfl⟩ := cell_bool Try.underlying4 (g0 1 _ _ rfl rfl)
  obtain ⟨x0_2, rfl⟩ := cell_bool Try.underlying4 (g0 2 _ _ rfl rfl)
  obtain ⟨n1, rfl, b1, c1⟩ := cell_i64 Try.underlying3 (hval 1 3 v1 rfl rfl)
  obtain ⟨n2, rfl, b2, c2⟩ := cell_i64 Try.underlying3 (hval 2 3 v2 rfl rfl)
  obtain ⟨cs3, rfl, k3, g3⟩ := open_row (ts := [9, 3, 3, 4, 3, 2, 9, 26]) (by kernel_rfl) (by kernel_rfl) (by kernel_rfl) (hval 3 30 v3 rfl rfl)
  obtain ⟨x3_0, x3_1, x3_2, x3_3, x3_4, x3_5, x3_6, x3_7, rfl⟩ := len8 k3
  obtain ⟨x3_1, rfl, _, _⟩ := cell_i64 Try.underlying3 (g3 1 _ _ rfl rfl)
  obtain ⟨x3_2, rfl, _, _⟩ := cell_i64 Try.underlying3 (g3 2 _ _ rfl rfl)
  obtain ⟨cs4, rfl, k4, g4⟩ := open_row (ts := [9, 3, 3, 9, 31]) (by kernel_rfl) (by kernel_rfl) (by kernel_rfl) (hval 4 33 v4 rfl rfl)
  obtain ⟨x4_0, x4_1, x4_2, x4_3, x4_4, rfl⟩ := len5 k4
  obtain ⟨x4_1, rfl, _, _⟩ := cell_i64 Try.underlying3 (g4 1 _ _ rfl rfl)
  obtain ⟨x4_2, rfl, _, _⟩ := cell_i64 Try.underlying3 (g4 2 _ _ rfl rfl)
  obtain ⟨cs5, rfl, k5, g5⟩ := open_row (ts := [3, 3, 3, 3, 3, 3, 9, 37, 38, 39]) (by kernel_rfl) (by kernel_rfl) (by kernel_rfl) (hval 5 41 v5 rfl rfl)
  obtain ⟨x5_0, x5_1, x5_2, x5_3, x5_4, x5_5, x5_6, x5_7, x5_8, x5_9, rfl⟩ := len10 k5
  obtain ⟨x5_0, rfl, _, _⟩ := cell_i64 Try.underlying3 (g5 0 _ _ rfl rfl)
  obtain ⟨x5_2, rfl, _, _⟩ := cell_i64 Try.underlying3 (g5 2 _ _ rfl rfl)
  obtain ⟨x5_4, rfl, _, _⟩ := cell_i64 Try.underlying3 (g5 4 _ _ rfl rfl)
  obtain ⟨cs6, rfl, k6, g6⟩ := open_row (ts := [3, 3, 3, 3, 3, 3, 9, 37, 38, 39]) (by kernel_rfl) (by kernel_rfl) (by kernel_rfl) (hval 6 41 v6 rfl rfl)
  obtain ⟨x6_0, x6_1, x6_2, x6_3, x6_4, x6_5, x6_6, x6_7, x6_8, x6_9, rfl⟩ := len10 k6
  obtain ⟨x6_0, rfl, _, _⟩ := cell_i64 Try.underlying3 (g6 0 _ _ rfl rfl)
  obtain ⟨x6_2, rfl, _, _⟩ := cell_i64 Try.underlying3 (g6 2 _ _ rfl rfl)
  obtain ⟨x6_4, rfl, _, _⟩ := cell_i64 Try.underlying3 (g6 4 _ _ rfl rfl)
  have hx : #[x3_0, .int .i64 x3_1, .int .i64 x3_2, x3_3, x3_4, x3_5, x3_6, x3_7].all (·.oneCell') = true := by
    simp [cell_one (g3 0 _ _ rfl rfl), cell_one (g3 1 _ _ rfl rfl), cell_one (g3 2 _ _ rfl rfl), cell_one (g3 3 _ _ rfl rfl), cell_one (g3 4 _ _ rfl rfl), cell_one (g3 5 _ _ rfl rfl), cell_one (g3 6 _ _ rfl rfl), cell_one (g3 7 _ _ rfl rfl)]
  have hy : #[x4_0, .int .i64 x4_1, .int .i64 x4_2, x4_3, x4_4].all (·.oneCell') = true := by
    simp [cell_one (g4 0 _ _ rfl rfl), cell_one (g4 1 _ _ rfl rfl), cell_one (g4 2 _ _ rfl rfl), cell_one (g4 3 _ _ rfl rfl), cell_one (g4 4 _ _ rfl rfl)]
  clear hA0 hval0
  refine (permMore_any x0_0 n1 n2 x0_1 x0_2 x3_1 x3_2 x3_0 x3_3 x3_4 x3_5 x3_6 x3_7 x4_1 x4_2 x4_0 x4_3 x4_4 x5_0 x5_2 x5_4 x5_1 x5_3 x5_5 x5_6 x5_7 x5_8 x5_9 x6_0 x6_2 x6_4 x6_1 x6_3 x6_5 x6_6 x6_7 x6_8 x6_9 W hx hy).mono fun e W' ⟨he, hf⟩ => ?_
  subst he
  exact ⟨_, rfl, law_post hW' hf Try.laidOut (by kernel_rfl) rfl rfl Try.underlying4 rfl rfl rfl⟩

theorem permMore_holds : Rows.PermMoreSaid :=
  OpenClaim.holds_of_wide 5 Try.f5 rfl rfl rfl rfl rfl rfl rfl ⟨rfl, rfl, rfl, rfl, rfl⟩ rfl rfl rfl rfl rfl (by kernel_rfl) Try.func5 (by kernel_rfl)
    (of_decide_eq_true (by kernel_rfl)) (by unfold Func.isWrapper; first | (rw [if_pos (by decide +kernel)]; kernel_rfl) | (rw [if_neg (by decide +kernel)]; exact ⟨rfl, rfl⟩))
    (fun os started H enc _ => permMore_lifted os started H enc)
#print axioms permMore_holds
end Go.Proofs.Ytpjlpnnopibclaa
