/- NumTexts: for every input of bulk at most 1,048,576 the law returns true. The walk is NumTexts's; here it is carried to the given row. -/
import Derived.Test.YtjngddmjgcecnaaNumTexts
import Derived.Test.YtjngddmjgcecnaaValRow
import Derived.JoinedCond
import Derived.ChangeMaps5
namespace Go.Proofs.Ytjngddmjgcecnaa
open Go.ChangeShapes Go.WideShapes Go.ChangeAt Go.RowKit

set_option maxRecDepth 100000 in
theorem numTexts_lifted (os : Os) (started : os.Started) (H : Type) (enc : TypeId × Value → H) (F : Stop.Interp) :
    ReturnsInHanded {} Try.checked os 7 .any ((Rows.OpenSpec.upto Rows.numTextsSpec).pre6 enc Try.prog Try.f7 Rows.numTextsUptoRow.domain false) (((Rows.OpenSpec.upto Rows.numTextsSpec).at F).post enc Try.prog Try.f7 false true false false) := by
  refine returnsInHanded_of_cond (C := Try.checked) (s := Rows.OpenSpec.upto Rows.numTextsSpec) (k := Rows.uptoSmall) rfl Try.own started (by kernel_rfl) Try.func7
    (OpenSpec.witness (enc := enc) (C := Try.checked) (s := Rows.OpenSpec.upto Rows.numTextsSpec) (k := Rows.uptoSmall) rfl false ⟨#[], #[.string .empty, .string .empty, .int .i64 0], []⟩ 8 (by kernel_rfl) (by kernel_rfl) (by kernel_rfl)
      (x := ([.lit (.string []), .lit (.string []), .lit (.int .i64 0)], [], [])) (by kernel_rfl) rfl (by kernel_rfl)) ?_
  intro W base args ds gs before hval0 hW _ hk _
  have hval : ∀ (j : Nat) t v, Try.f7.params[j]? = some t → args[j]? = some v → Value.okWide Try.prog W .any base t v := hval0
  have hW' := hW
  obtain ⟨p, q, hA0, hV, rfl, hfz, hnd⟩ := hW
  have hA : DataW.TrodAll enc Try.prog W 0 (fun _ => true) true Try.f7.params.toList args.toList ds p := hA0
  rw [Try.params7] at hA hval
  obtain ⟨v0, vs0, d0, ds0, p0, q0, hargs, rfl, rfl, h0, r0⟩ := trodAll_cons hA
  obtain ⟨v1, vs1, d1, ds1, p1, q1, rfl, rfl, rfl, h1, r1⟩ := trodAll_cons r0
  obtain ⟨v2, vs2, d2, ds2, p2, q2, rfl, rfl, rfl, h2, r2⟩ := trodAll_cons r1
  obtain ⟨rfl, rfl, rfl⟩ := trodAll_nil r2
  obtain rfl : args = #[v0, v1, v2] := by cases args; simp_all
  obtain ⟨rfl, rfl⟩ := trodVars_none hV
  obtain ⟨n2, rfl, b2, c2⟩ := cell_i64 Try.underlying3 (hval 2 3 v2 rfl rfl)
  obtain ⟨s0, rfl, hds0, -, -⟩ := ChangeMaps.open_string Try.underlying9 (hval 0 9 v0 rfl rfl) h0
  have hs0 : s0.size ≤ Rows.uptoBulk d0 := by
    subst hds0
    simp only [Rows.uptoBulk]
    have : s0.data.toList.length = s0.size := by rw [Array.length_toList]; rfl
    omega
  obtain ⟨s1, rfl, hds1, -, -⟩ := ChangeMaps.open_string Try.underlying9 (hval 1 9 v1 rfl rfl) h1
  have hs1 : s1.size ≤ Rows.uptoBulk d1 := by
    subst hds1
    simp only [Rows.uptoBulk]
    have : s1.data.toList.length = s1.size := by rw [Array.length_toList]; rfl
    omega
  clear hA0 hval0
  have hb : Rows.uptoBulkAll [d0, d1, d2] ≤ 1048576 := of_decide_eq_true hk
  simp only [Rows.uptoBulkAll] at hb
  refine (numTexts_any s0 s1 n2 b2 c2 W (by omega) (by omega)).mono fun e W' ⟨he, hf⟩ => ?_
  subst he
  exact ⟨_, rfl, law_post hW' hf Try.laidOut (by kernel_rfl) rfl rfl Try.underlying4 rfl rfl rfl⟩

theorem numTexts_holds : Rows.NumTextsUptoSaid :=
  OpenClaim.holds_of_cond 7 Try.f7 rfl rfl rfl rfl rfl rfl rfl ⟨rfl, rfl, rfl, rfl, rfl⟩ rfl rfl rfl rfl rfl (by kernel_rfl) Try.func7 (by kernel_rfl)
    (of_decide_eq_true (by kernel_rfl)) (by unfold Func.isWrapper; first | (rw [if_pos (by decide +kernel)]; kernel_rfl) | (rw [if_neg (by decide +kernel)]; exact ⟨rfl, rfl⟩))
    (fun os started H enc _ F => numTexts_lifted os started H enc F)
#print axioms numTexts_holds
end Go.Proofs.Ytjngddmjgcecnaa
