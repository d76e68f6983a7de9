/- NumPlaces: for every input of bulk at most 1,048,576 the law returns true. The walk is NumPlaces's; here it is carried to the given row. -/
import Derived.Test.YtjngddmjgcecnaaNumPlaces
import Derived.Test.YtjngddmjgcecnaaValRow
import Derived.JoinedCond
namespace Go.Proofs.Ytjngddmjgcecnaa
open Go.ChangeShapes Go.WideShapes Go.ChangeAt Go.RowKit

set_option maxRecDepth 100000 in
theorem numPlaces_lifted (os : Os) (started : os.Started) (H : Type) (enc : TypeId × Value → H) (F : Stop.Interp) :
    ReturnsInHanded {} Try.checked os 6 .any ((Rows.OpenSpec.upto Rows.numPlacesSpec).pre6 enc Try.prog Try.f6 Rows.numPlacesUptoRow.domain false) (((Rows.OpenSpec.upto Rows.numPlacesSpec).at F).post enc Try.prog Try.f6 false true false false) := by
  refine returnsInHanded_of_cond (C := Try.checked) (s := Rows.OpenSpec.upto Rows.numPlacesSpec) (k := Rows.uptoSmall) rfl Try.own started (by kernel_rfl) Try.func6
    (OpenSpec.witness (enc := enc) (C := Try.checked) (s := Rows.OpenSpec.upto Rows.numPlacesSpec) (k := Rows.uptoSmall) rfl false ⟨#[], #[.agg #[.int .i64 0, .int .i64 0, .string .empty, .slice none 0 0], .agg #[.int .i64 0, .int .i64 0, .string .empty, .slice none 0 0], .agg #[.int .i64 0, .int .i64 0, .string .empty, .slice none 0 0], .agg #[.int .i64 0, .int .i64 0, .string .empty, .slice none 0 0]], []⟩ 8 (by kernel_rfl) (by kernel_rfl) (by kernel_rfl)
      (x := ([.agg [.lit (.int .i64 0), .lit (.int .i64 0), .lit (.string []), .nil], .agg [.lit (.int .i64 0), .lit (.int .i64 0), .lit (.string []), .nil], .agg [.lit (.int .i64 0), .lit (.int .i64 0), .lit (.string []), .nil], .agg [.lit (.int .i64 0), .lit (.int .i64 0), .lit (.string []), .nil]], [], [])) (by kernel_rfl) rfl (by kernel_rfl)) ?_
  intro W base args ds gs before hval0 hW _ hk _
  have hval : ∀ (j : Nat) t v, Try.f6.params[j]? = some t → args[j]? = some v → Value.okWide Try.prog W .any base t v := hval0
  have hW' := hW
  obtain ⟨p, q, hA0, hV, rfl, hfz, hnd⟩ := hW
  have hA : DataW.TrodAll enc Try.prog W 0 (fun _ => true) true Try.f6.params.toList args.toList ds p := hA0
  rw [Try.params6] at hA hval
  obtain ⟨v0, vs0, d0, ds0, p0, q0, hargs, rfl, rfl, h0, r0⟩ := trodAll_cons hA
  obtain ⟨v1, vs1, d1, ds1, p1, q1, rfl, rfl, rfl, h1, r1⟩ := trodAll_cons r0
  obtain ⟨v2, vs2, d2, ds2, p2, q2, rfl, rfl, rfl, h2, r2⟩ := trodAll_cons r1
  obtain ⟨v3, vs3, d3, ds3, p3, q3, rfl, rfl, rfl, h3, r3⟩ := trodAll_cons r2
  obtain ⟨rfl, rfl, rfl⟩ := trodAll_nil r3
  obtain rfl : args = #[v0, v1, v2, v3] := by cases args; simp_all
  obtain ⟨rfl, rfl⟩ := trodVars_none hV
  obtain ⟨fuel0, hf0⟩ := h0
  obtain ⟨x0, u0, hcs0, hx0, hs0, hw0⟩ := open_value W fuel0 _ _ hf0
  obtain ⟨cs0, rfl, hl40, -⟩ := open_row (by kernel_rfl) (ts := [3, 2, 9, 22]) (by kernel_rfl) (by kernel_rfl) (hval 0 24 v0 rfl rfl)
  obtain rfl : cs0 = u0.toList := by simpa [Value.cells] using hcs0
  have hs0 : x0.size ≤ Rows.uptoBulk d0 := hs0
  obtain ⟨fuel1, hf1⟩ := h1
  obtain ⟨x1, u1, hcs1, hx1, hs1, hw1⟩ := open_value W fuel1 _ _ hf1
  obtain ⟨cs1, rfl, hl41, -⟩ := open_row (by kernel_rfl) (ts := [3, 2, 9, 22]) (by kernel_rfl) (by kernel_rfl) (hval 1 24 v1 rfl rfl)
  obtain rfl : cs1 = u1.toList := by simpa [Value.cells] using hcs1
  have hs1 : x1.size ≤ Rows.uptoBulk d1 := hs1
  obtain ⟨fuel2, hf2⟩ := h2
  obtain ⟨x2, u2, hcs2, hx2, hs2, hw2⟩ := open_value W fuel2 _ _ hf2
  obtain ⟨cs2, rfl, hl42, -⟩ := open_row (by kernel_rfl) (ts := [3, 2, 9, 22]) (by kernel_rfl) (by kernel_rfl) (hval 2 24 v2 rfl rfl)
  obtain rfl : cs2 = u2.toList := by simpa [Value.cells] using hcs2
  have hs2 : x2.size ≤ Rows.uptoBulk d2 := hs2
  obtain ⟨fuel3, hf3⟩ := h3
  obtain ⟨x3, u3, hcs3, hx3, hs3, hw3⟩ := open_value W fuel3 _ _ hf3
  obtain ⟨cs3, rfl, hl43, -⟩ := open_row (by kernel_rfl) (ts := [3, 2, 9, 22]) (by kernel_rfl) (by kernel_rfl) (hval 3 24 v3 rfl rfl)
  obtain rfl : cs3 = u3.toList := by simpa [Value.cells] using hcs3
  have hs3 : x3.size ≤ Rows.uptoBulk d3 := hs3
  clear hA0 hval0
  have hb : Rows.uptoBulkAll [d0, d1, d2, d3] ≤ 1048576 := of_decide_eq_true hk
  simp only [Rows.uptoBulkAll] at hb
  refine (numPlaces_any x0 x1 x2 x3 _ _ _ _ W hx0 hx1 hx2 hx3 (by omega) (by omega)).mono fun e W' ⟨he, hf⟩ => ?_
  subst he
  exact ⟨_, rfl, law_post hW' hf Try.laidOut (by kernel_rfl) rfl rfl Try.underlying4 rfl rfl rfl⟩

theorem numPlaces_holds : Rows.NumPlacesUptoSaid :=
  OpenClaim.holds_of_cond 6 Try.f6 rfl rfl rfl rfl rfl rfl rfl ⟨rfl, rfl, rfl, rfl, rfl⟩ rfl rfl rfl rfl rfl (by kernel_rfl) Try.func6 (by kernel_rfl)
    (of_decide_eq_true (by kernel_rfl)) (by unfold Func.isWrapper; first | (rw [if_pos (by decide +kernel)]; kernel_rfl) | (rw [if_neg (by decide +kernel)]; exact ⟨rfl, rfl⟩))
    (fun os started H enc _ F => numPlaces_lifted os started H enc F)
#print axioms numPlaces_holds
end Go.Proofs.Ytjngddmjgcecnaa
