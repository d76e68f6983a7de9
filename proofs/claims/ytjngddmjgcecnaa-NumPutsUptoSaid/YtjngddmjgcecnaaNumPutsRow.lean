/- NumPuts: for every input of bulk at most 1,048,576 the law returns true. The walk is NumPuts's; here it is carried to the given row. -/
import Derived.Test.YtjngddmjgcecnaaNumPuts
import Derived.Test.YtjngddmjgcecnaaValRow
import Derived.JoinedCond
import Derived.ChangeMaps5
namespace Go.Proofs.Ytjngddmjgcecnaa
open Go.ChangeShapes Go.WideShapes Go.ChangeAt Go.RowKit

set_option maxRecDepth 100000 in
theorem numPuts_lifted (os : Os) (started : os.Started) (H : Type) (enc : TypeId × Value → H) (F : Stop.Interp) :
    ReturnsInHanded {} Try.checked os 5 .any ((Rows.OpenSpec.upto Rows.numPutsSpec).pre6 enc Try.prog Try.f5 Rows.numPutsUptoRow.domain false) (((Rows.OpenSpec.upto Rows.numPutsSpec).at F).post enc Try.prog Try.f5 false true false false) := by
  refine returnsInHanded_of_cond (C := Try.checked) (s := Rows.OpenSpec.upto Rows.numPutsSpec) (k := Rows.uptoSmall) rfl Try.own started (by kernel_rfl) Try.func5
    (OpenSpec.witness (enc := enc) (C := Try.checked) (s := Rows.OpenSpec.upto Rows.numPutsSpec) (k := Rows.uptoSmall) rfl false ⟨#[], #[.slice none 0 0, .agg #[.int .i64 0, .int .i64 0, .string .empty, .slice none 0 0], .int .i64 0, .string .empty], []⟩ 8 (by kernel_rfl) (by kernel_rfl) (by kernel_rfl)
      (x := ([.nil, .agg [.lit (.int .i64 0), .lit (.int .i64 0), .lit (.string []), .nil], .lit (.int .i64 0), .lit (.string [])], [], [])) (by kernel_rfl) rfl (by kernel_rfl)) ?_
  intro W base args ds gs before hval0 hW _ hk _
  have hval : ∀ (j : Nat) t v, Try.f5.params[j]? = some t → args[j]? = some v → Value.okWide Try.prog W .any base t v := hval0
  have hW' := hW
  obtain ⟨p, q, hA0, hV, rfl, hfz, hnd⟩ := hW
  have hA : DataW.TrodAll enc Try.prog W 0 (fun _ => true) true Try.f5.params.toList args.toList ds p := hA0
  rw [Try.params5] at hA hval
  obtain ⟨v0, vs0, d0, ds0, p0, q0, hargs, rfl, rfl, h0, r0⟩ := trodAll_cons hA
  obtain ⟨v1, vs1, d1, ds1, p1, q1, rfl, rfl, rfl, h1, r1⟩ := trodAll_cons r0
  obtain ⟨v2, vs2, d2, ds2, p2, q2, rfl, rfl, rfl, h2, r2⟩ := trodAll_cons r1
  obtain ⟨v3, vs3, d3, ds3, p3, q3, rfl, rfl, rfl, h3, r3⟩ := trodAll_cons r2
  obtain ⟨rfl, rfl, rfl⟩ := trodAll_nil r3
  obtain rfl : args = #[v0, v1, v2, v3] := by cases args; simp_all
  obtain ⟨rfl, rfl⟩ := trodVars_none hV
  obtain ⟨n2, rfl, b2, c2⟩ := cell_i64 Try.underlying3 (hval 2 3 v2 rfl rfl)
  obtain ⟨fuel0, hf0⟩ := h0
  obtain ⟨l0, e0, hcs0, hl0, hs0, hw0⟩ := open_slice (fun m _ => open_value W m) hf0
  obtain ⟨aa0, ll0, cc0, rfl⟩ := okWide_slice Try.underlying22 (hval 0 22 v0 rfl rfl)
  obtain rfl : e0 = .slice aa0 ll0 cc0 := by simpa [Value.cells] using hcs0.symm
  have hs0 : sizeL l0 ≤ Rows.uptoBulk d0 := hs0
  obtain ⟨fuel1, hf1⟩ := h1
  obtain ⟨x1, u1, hcs1, hx1, hs1, hw1⟩ := open_value W fuel1 _ _ hf1
  obtain ⟨cs1, rfl, hl41, -⟩ := open_row (by kernel_rfl) (ts := [3, 2, 9, 22]) (by kernel_rfl) (by kernel_rfl) (hval 1 24 v1 rfl rfl)
  obtain rfl : cs1 = u1.toList := by simpa [Value.cells] using hcs1
  have hs1 : x1.size ≤ Rows.uptoBulk d1 := hs1
  obtain ⟨s3, rfl, hds3, -, -⟩ := ChangeMaps.open_string Try.underlying9 (hval 3 9 v3 rfl rfl) h3
  have hs3 : s3.size ≤ Rows.uptoBulk d3 := by
    subst hds3
    simp only [Rows.uptoBulk]
    have : s3.data.toList.length = s3.size := by rw [Array.length_toList]; rfl
    omega
  clear hA0 hval0
  have hb : Rows.uptoBulkAll [d0, d1, d2, d3] ≤ 1048576 := of_decide_eq_true hk
  simp only [Rows.uptoBulkAll] at hb
  refine (numPuts_any l0 x1 _ _ n2 s3 b2 c2 W hl0 hx1 (by omega) (by omega) (by omega)).mono fun e W' ⟨he, hf⟩ => ?_
  subst he
  exact ⟨_, rfl, law_post hW' hf Try.laidOut (by kernel_rfl) rfl rfl Try.underlying4 rfl rfl rfl⟩

theorem numPuts_holds : Rows.NumPutsUptoSaid :=
  OpenClaim.holds_of_cond 5 Try.f5 rfl rfl rfl rfl rfl rfl rfl ⟨rfl, rfl, rfl, rfl, rfl⟩ rfl rfl rfl rfl rfl (by kernel_rfl) Try.func5 (by kernel_rfl)
    (of_decide_eq_true (by kernel_rfl)) (by unfold Func.isWrapper; first | (rw [if_pos (by decide +kernel)]; kernel_rfl) | (rw [if_neg (by decide +kernel)]; exact ⟨rfl, rfl⟩))
    (fun os started H enc _ F => numPuts_lifted os started H enc F)
#print axioms numPuts_holds
end Go.Proofs.Ytjngddmjgcecnaa
