/- The statement NumPlaces, walked. -/
import Derived.Test.YtjngddmjgcecnaaNumH
import Derived.Test.YtjngddmjgcecnaaNumC
import Derived.Test.YtjngddmjgcecnaaRightOk
import Derived.Test.YtjngddmjgcecnaaRefSame
import Derived.Test.YtjngddmjgcecnaaRefValue
namespace Go.Proofs.Ytjngddmjgcecnaa
open Go.RowKit

/-- Four boxes. -/
theorem boxes4 (x i j z : V) (a0 a1 a2 a3 : Option Addr) (c0 c1 c2 c3 : Nat) (w : World) : Fr (fun _ => False) w ((((w.alloc (.cells #[.int .i64 x.k, .int .i64 x.n, .string x.s, .slice a0 x.l.length c0] 24)).alloc (.cells #[.int .i64 i.k, .int .i64 i.n, .string i.s, .slice a1 i.l.length c1] 24)).alloc (.cells #[.int .i64 j.k, .int .i64 j.n, .string j.s, .slice a2 j.l.length c2] 24)).alloc (.cells #[.int .i64 z.k, .int .i64 z.n, .string z.s, .slice a3 z.l.length c3] 24)) ∧ ((((w.alloc (.cells #[.int .i64 x.k, .int .i64 x.n, .string x.s, .slice a0 x.l.length c0] 24)).alloc (.cells #[.int .i64 i.k, .int .i64 i.n, .string i.s, .slice a1 i.l.length c1] 24)).alloc (.cells #[.int .i64 j.k, .int .i64 j.n, .string j.s, .slice a2 j.l.length c2] 24)).alloc (.cells #[.int .i64 z.k, .int .i64 z.n, .string z.s, .slice a3 z.l.length c3] 24)).heap[w.heap.size]? = some (.cells #[.int .i64 x.k, .int .i64 x.n, .string x.s, .slice a0 x.l.length c0] 24) ∧
    ((((w.alloc (.cells #[.int .i64 x.k, .int .i64 x.n, .string x.s, .slice a0 x.l.length c0] 24)).alloc (.cells #[.int .i64 i.k, .int .i64 i.n, .string i.s, .slice a1 i.l.length c1] 24)).alloc (.cells #[.int .i64 j.k, .int .i64 j.n, .string j.s, .slice a2 j.l.length c2] 24)).alloc (.cells #[.int .i64 z.k, .int .i64 z.n, .string z.s, .slice a3 z.l.length c3] 24)).heap[w.heap.size + 1]? = some (.cells #[.int .i64 i.k, .int .i64 i.n, .string i.s, .slice a1 i.l.length c1] 24) ∧ ((((w.alloc (.cells #[.int .i64 x.k, .int .i64 x.n, .string x.s, .slice a0 x.l.length c0] 24)).alloc (.cells #[.int .i64 i.k, .int .i64 i.n, .string i.s, .slice a1 i.l.length c1] 24)).alloc (.cells #[.int .i64 j.k, .int .i64 j.n, .string j.s, .slice a2 j.l.length c2] 24)).alloc (.cells #[.int .i64 z.k, .int .i64 z.n, .string z.s, .slice a3 z.l.length c3] 24)).heap[w.heap.size + 1 + 1]? = some (.cells #[.int .i64 j.k, .int .i64 j.n, .string j.s, .slice a2 j.l.length c2] 24) ∧ ((((w.alloc (.cells #[.int .i64 x.k, .int .i64 x.n, .string x.s, .slice a0 x.l.length c0] 24)).alloc (.cells #[.int .i64 i.k, .int .i64 i.n, .string i.s, .slice a1 i.l.length c1] 24)).alloc (.cells #[.int .i64 j.k, .int .i64 j.n, .string j.s, .slice a2 j.l.length c2] 24)).alloc (.cells #[.int .i64 z.k, .int .i64 z.n, .string z.s, .slice a3 z.l.length c3] 24)).heap[w.heap.size + 1 + 1 + 1]? = some (.cells #[.int .i64 z.k, .int .i64 z.n, .string z.s, .slice a3 z.l.length c3] 24) := by
  have f2 := (Fr.refl (fun _ => False) (w.alloc (.cells #[.int .i64 x.k, .int .i64 x.n, .string x.s, .slice a0 x.l.length c0] 24))).alloc (.cells #[.int .i64 i.k, .int .i64 i.n, .string i.s, .slice a1 i.l.length c1] 24)
  have f3 := (Fr.refl (fun _ => False) ((w.alloc (.cells #[.int .i64 x.k, .int .i64 x.n, .string x.s, .slice a0 x.l.length c0] 24)).alloc (.cells #[.int .i64 i.k, .int .i64 i.n, .string i.s, .slice a1 i.l.length c1] 24))).alloc (.cells #[.int .i64 j.k, .int .i64 j.n, .string j.s, .slice a2 j.l.length c2] 24)
  have f4 := (Fr.refl (fun _ => False) (((w.alloc (.cells #[.int .i64 x.k, .int .i64 x.n, .string x.s, .slice a0 x.l.length c0] 24)).alloc (.cells #[.int .i64 i.k, .int .i64 i.n, .string i.s, .slice a1 i.l.length c1] 24)).alloc (.cells #[.int .i64 j.k, .int .i64 j.n, .string j.s, .slice a2 j.l.length c2] 24))).alloc (.cells #[.int .i64 z.k, .int .i64 z.n, .string z.s, .slice a3 z.l.length c3] 24)
  have h1 := heap_alloc_new w (.cells #[.int .i64 x.k, .int .i64 x.n, .string x.s, .slice a0 x.l.length c0] 24)
  have h2 := heap_alloc_new (w.alloc (.cells #[.int .i64 x.k, .int .i64 x.n, .string x.s, .slice a0 x.l.length c0] 24)) (.cells #[.int .i64 i.k, .int .i64 i.n, .string i.s, .slice a1 i.l.length c1] 24)
  have h3 := heap_alloc_new ((w.alloc (.cells #[.int .i64 x.k, .int .i64 x.n, .string x.s, .slice a0 x.l.length c0] 24)).alloc (.cells #[.int .i64 i.k, .int .i64 i.n, .string i.s, .slice a1 i.l.length c1] 24)) (.cells #[.int .i64 j.k, .int .i64 j.n, .string j.s, .slice a2 j.l.length c2] 24)
  have h4 := heap_alloc_new (((w.alloc (.cells #[.int .i64 x.k, .int .i64 x.n, .string x.s, .slice a0 x.l.length c0] 24)).alloc (.cells #[.int .i64 i.k, .int .i64 i.n, .string i.s, .slice a1 i.l.length c1] 24)).alloc (.cells #[.int .i64 j.k, .int .i64 j.n, .string j.s, .slice a2 j.l.length c2] 24)) (.cells #[.int .i64 z.k, .int .i64 z.n, .string z.s, .slice a3 z.l.length c3] 24)
  have s1 : (w.alloc (.cells #[.int .i64 x.k, .int .i64 x.n, .string x.s, .slice a0 x.l.length c0] 24)).heap.size = w.heap.size + 1 := by simp
  have s2 : ((w.alloc (.cells #[.int .i64 x.k, .int .i64 x.n, .string x.s, .slice a0 x.l.length c0] 24)).alloc (.cells #[.int .i64 i.k, .int .i64 i.n, .string i.s, .slice a1 i.l.length c1] 24)).heap.size = w.heap.size + 1 + 1 := by simp
  have s3 : (((w.alloc (.cells #[.int .i64 x.k, .int .i64 x.n, .string x.s, .slice a0 x.l.length c0] 24)).alloc (.cells #[.int .i64 i.k, .int .i64 i.n, .string i.s, .slice a1 i.l.length c1] 24)).alloc (.cells #[.int .i64 j.k, .int .i64 j.n, .string j.s, .slice a2 j.l.length c2] 24)).heap.size = w.heap.size + 1 + 1 + 1 := by simp
  rw [s1] at h2
  rw [s2] at h3
  rw [s3] at h4
  exact ⟨((((Fr.refl _ _).alloc _).alloc _).alloc _).alloc _, ((f2.trans' f3).trans' f4).heap h1 not_false, (f3.trans' f4).heap h2 not_false, f4.heap h3 not_false, h4⟩

set_option maxRecDepth 100000 in
set_option maxHeartbeats 12800000 in
theorem numPlaces_any (x i j z : V) (u0 u1 u2 u3 : Array Value) (w : World) (h0 : VIn T w x u0) (h1 : VIn T w i u1) (h2 : VIn T w j u2) (h3 : VIn T w z u3) (hxs : x.size + i.size + j.size ≤ 1048576) (hzs : z.size ≤ 1048576) :
    Calls Try.prog 6 #[.agg u0, .agg u1, .agg u2, .agg u3] w fun e w' => e = .returned (.bool true) ∧ Fr (fun _ => False) w w' := by
  obtain ⟨v0, rfl, a0, c0, us0, rfl, -⟩ := h0.open
  obtain ⟨v1, rfl, a1, c1, us1, rfl, -⟩ := h1.open
  obtain ⟨v2, rfl, a2, c2, us2, rfl, -⟩ := h2.open
  obtain ⟨v3, rfl, a3, c3, us3, rfl, -⟩ := h3.open
  obtain ⟨hf, hb0, hb1, hb2, hb3⟩ := boxes4 x i j z a0 a1 a2 a3 c0 c1 c2 c3 w
  have HX := hid h0; have HI := hid h1; have HJ := hid h2; have HZ := hid h3; have HXS := hid hxs; have HZS := hid hzs
  have HF0 := hid hf; have HB0_0 := hid hb0; have HB1_0 := hid hb1; have HB2_0 := hid hb2; have HB3_0 := hid hb3
  clear h0 h1 h2 h3 hxs hzs hf hb0 hb1 hb2 hb3
  go_enter Try.func6, Try.ntmps6
  go_wp2_with fail
  refine (nfirst_any _).mono ?_
  rintro e w1 ⟨rfl, hf⟩
  have HF1 := hid (HF0.out.trans' hf)
  have HB0_1 := hid (hf.heap HB0_0.out not_false)
  have HB1_1 := hid (hf.heap HB1_0.out not_false)
  have HB2_1 := hid (hf.heap HB2_0.out not_false)
  have HB3_1 := hid (hf.heap HB3_0.out not_false)
  clear HF0 HB0_0 HB1_0 HB2_0 HB3_0
  clear hf
  have b0q0 : w1.cell? ⟨w.heap.size, 0, none⟩ = some (.int .i64 x.k) := by rw [cell_of_row _ _ 0 _ _ _ HB0_1.out]; rfl
  have b0q1 : w1.cell? ⟨w.heap.size, 1, none⟩ = some (.int .i64 x.n) := by rw [cell_of_row _ _ 1 _ _ _ HB0_1.out]; rfl
  have b0q2 : w1.cell? ⟨w.heap.size, 2, none⟩ = some (.string x.s) := by rw [cell_of_row _ _ 2 _ _ _ HB0_1.out]; rfl
  have b0q3 : w1.cell? ⟨w.heap.size, 3, none⟩ = some (.slice a0 x.l.length c0) := by rw [cell_of_row _ _ 3 _ _ _ HB0_1.out]; rfl
  go_wp2_with fail
  refine (rright_any x (by have := HXS.out; have := HZS.out; omega) T _ _ (HX.out.fr HF1.out)).mono ?_
  rintro e w2 ⟨rfl, hf⟩
  have HF2 := hid (HF1.out.trans' hf)
  have HB0_2 := hid (hf.heap HB0_1.out not_false)
  have HB1_2 := hid (hf.heap HB1_1.out not_false)
  have HB2_2 := hid (hf.heap HB2_1.out not_false)
  have HB3_2 := hid (hf.heap HB3_1.out not_false)
  clear HF1 HB0_1 HB1_1 HB2_1 HB3_1
  clear hf b0q0 b0q1 b0q2 b0q3
  by_cases hr0 : x.right = true
  rotate_left
  · rw [Bool.eq_false_iff.2 hr0]
    go_wp2_with fail
    go_ret
    exact ⟨rfl, HF2.out⟩
  rw [hr0]
  have b1q0 : w2.cell? ⟨w.heap.size + 1, 0, none⟩ = some (.int .i64 i.k) := by rw [cell_of_row _ _ 0 _ _ _ HB1_2.out]; rfl
  have b1q1 : w2.cell? ⟨w.heap.size + 1, 1, none⟩ = some (.int .i64 i.n) := by rw [cell_of_row _ _ 1 _ _ _ HB1_2.out]; rfl
  have b1q2 : w2.cell? ⟨w.heap.size + 1, 2, none⟩ = some (.string i.s) := by rw [cell_of_row _ _ 2 _ _ _ HB1_2.out]; rfl
  have b1q3 : w2.cell? ⟨w.heap.size + 1, 3, none⟩ = some (.slice a1 i.l.length c1) := by rw [cell_of_row _ _ 3 _ _ _ HB1_2.out]; rfl
  go_wp2_with fail
  refine (rright_any i (by have := HXS.out; have := HZS.out; omega) T _ _ (HI.out.fr HF2.out)).mono ?_
  rintro e w3 ⟨rfl, hf⟩
  have HF3 := hid (HF2.out.trans' hf)
  have HB0_3 := hid (hf.heap HB0_2.out not_false)
  have HB1_3 := hid (hf.heap HB1_2.out not_false)
  have HB2_3 := hid (hf.heap HB2_2.out not_false)
  have HB3_3 := hid (hf.heap HB3_2.out not_false)
  clear HF2 HB0_2 HB1_2 HB2_2 HB3_2
  clear hf b1q0 b1q1 b1q2 b1q3
  by_cases hr1 : i.right = true
  rotate_left
  · rw [Bool.eq_false_iff.2 hr1]
    go_wp2_with fail
    go_ret
    exact ⟨rfl, HF3.out⟩
  rw [hr1]
  have b2q0 : w3.cell? ⟨w.heap.size + 1 + 1, 0, none⟩ = some (.int .i64 j.k) := by rw [cell_of_row _ _ 0 _ _ _ HB2_3.out]; rfl
  have b2q1 : w3.cell? ⟨w.heap.size + 1 + 1, 1, none⟩ = some (.int .i64 j.n) := by rw [cell_of_row _ _ 1 _ _ _ HB2_3.out]; rfl
  have b2q2 : w3.cell? ⟨w.heap.size + 1 + 1, 2, none⟩ = some (.string j.s) := by rw [cell_of_row _ _ 2 _ _ _ HB2_3.out]; rfl
  have b2q3 : w3.cell? ⟨w.heap.size + 1 + 1, 3, none⟩ = some (.slice a2 j.l.length c2) := by rw [cell_of_row _ _ 3 _ _ _ HB2_3.out]; rfl
  go_wp2_with fail
  refine (rright_any j (by have := HXS.out; have := HZS.out; omega) T _ _ (HJ.out.fr HF3.out)).mono ?_
  rintro e w4 ⟨rfl, hf⟩
  have HF4 := hid (HF3.out.trans' hf)
  have HB0_4 := hid (hf.heap HB0_3.out not_false)
  have HB1_4 := hid (hf.heap HB1_3.out not_false)
  have HB2_4 := hid (hf.heap HB2_3.out not_false)
  have HB3_4 := hid (hf.heap HB3_3.out not_false)
  clear HF3 HB0_3 HB1_3 HB2_3 HB3_3
  clear hf b2q0 b2q1 b2q2 b2q3
  by_cases hr2 : j.right = true
  rotate_left
  · rw [Bool.eq_false_iff.2 hr2]
    go_wp2_with fail
    go_ret
    exact ⟨rfl, HF4.out⟩
  rw [hr2]
  have b3q0 : w4.cell? ⟨w.heap.size + 1 + 1 + 1, 0, none⟩ = some (.int .i64 z.k) := by rw [cell_of_row _ _ 0 _ _ _ HB3_4.out]; rfl
  have b3q1 : w4.cell? ⟨w.heap.size + 1 + 1 + 1, 1, none⟩ = some (.int .i64 z.n) := by rw [cell_of_row _ _ 1 _ _ _ HB3_4.out]; rfl
  have b3q2 : w4.cell? ⟨w.heap.size + 1 + 1 + 1, 2, none⟩ = some (.string z.s) := by rw [cell_of_row _ _ 2 _ _ _ HB3_4.out]; rfl
  have b3q3 : w4.cell? ⟨w.heap.size + 1 + 1 + 1, 3, none⟩ = some (.slice a3 z.l.length c3) := by rw [cell_of_row _ _ 3 _ _ _ HB3_4.out]; rfl
  go_wp2_with fail
  refine (rright_any z (by have := HXS.out; have := HZS.out; omega) T _ _ (HZ.out.fr HF4.out)).mono ?_
  rintro e w5 ⟨rfl, hf⟩
  have HF5 := hid (HF4.out.trans' hf)
  have HB0_5 := hid (hf.heap HB0_4.out not_false)
  have HB1_5 := hid (hf.heap HB1_4.out not_false)
  have HB2_5 := hid (hf.heap HB2_4.out not_false)
  have HB3_5 := hid (hf.heap HB3_4.out not_false)
  clear HF4 HB0_4 HB1_4 HB2_4 HB3_4
  clear hf b3q0 b3q1 b3q2 b3q3
  by_cases hr3 : z.right = true
  rotate_left
  · rw [Bool.eq_false_iff.2 hr3]
    go_wp2_with fail
    go_ret
    exact ⟨rfl, HF5.out⟩
  rw [hr3]
  obtain ⟨gx, gc, hg⟩ : ∃ a b, pIdx x i = (a, b) := ⟨_, _, rfl⟩
  obtain ⟨sx, sc, hs⟩ : ∃ a b, nSlice x i j = (a, b) := ⟨_, _, rfl⟩
  obtain ⟨px, pc, hp⟩ : ∃ a b, nPut x i z = (a, b) := ⟨_, _, rfl⟩
  have hkx : kindedL x.l := by have := (right_ok hr0).2.2; cases x; exact this.2.2
  have hkz := (right_ok hr3).2.2
  have KI := hid (show ∀ w1, Fr (fun _ => False) w w1 → Calls Try.prog 20 #[.agg #[.int .i64 x.k, .int .i64 x.n, .string x.s, .slice a0 x.l.length c0], .agg #[.int .i64 i.k, .int .i64 i.n, .string i.s, .slice a1 i.l.length c1]] w1 (GP w1 gx gc) from fun w1 hf => by
    have := index_any x i _ _ w1 (HX.out.fr hf) (HI.out.fr hf) (by have := HXS.out; omega)
    rw [hg] at this
    exact this.mono fun e w' ⟨u, h1, h2, h3⟩ => ⟨u, h1, h2, h3.t⟩)
  have RI := hid (show ∀ w1, Fr (fun _ => False) w w1 → Calls Try.prog 22 #[.agg #[.int .i64 x.k, .int .i64 x.n, .string x.s, .slice a0 x.l.length c0], .agg #[.int .i64 i.k, .int .i64 i.n, .string i.s, .slice a1 i.l.length c1]] w1 (GP w1 gx gc) from fun w1 hf => by
    have := rindex_any x i _ _ w1 (HX.out.fr hf) (HI.out.fr hf) (by have := HXS.out; omega)
    rw [hg] at this
    exact this)
  have KS := hid (show ∀ w1, Fr (fun _ => False) w w1 → Calls Try.prog 23 #[.agg #[.int .i64 x.k, .int .i64 x.n, .string x.s, .slice a0 x.l.length c0], .agg #[.int .i64 i.k, .int .i64 i.n, .string i.s, .slice a1 i.l.length c1], .agg #[.int .i64 j.k, .int .i64 j.n, .string j.s, .slice a2 j.l.length c2]] w1 (GP w1 sx sc) from fun w1 hf => by
    have := nslice_any x i j _ _ _ w1 (HX.out.fr hf) (HI.out.fr hf) (HJ.out.fr hf) (by have := HXS.out; omega) (by have := HXS.out; omega)
    rw [hs] at this
    exact this.mono fun e w' ⟨u, h1, h2, h3⟩ => ⟨u, h1, h2, h3.t⟩)
  have RS := hid (show ∀ w1, Fr (fun _ => False) w w1 → Calls Try.prog 24 #[.agg #[.int .i64 x.k, .int .i64 x.n, .string x.s, .slice a0 x.l.length c0], .agg #[.int .i64 i.k, .int .i64 i.n, .string i.s, .slice a1 i.l.length c1], .agg #[.int .i64 j.k, .int .i64 j.n, .string j.s, .slice a2 j.l.length c2]] w1 (GP w1 sx sc) from fun w1 hf => by
    have := rslice_any x i j hkx _ _ _ w1 (HX.out.fr hf) (HI.out.fr hf) (HJ.out.fr hf) (by have := HXS.out; omega) (by have := HXS.out; omega)
    rw [hs] at this
    exact this)
  have KP := hid (show ∀ w1, Fr (fun _ => False) w w1 → Calls Try.prog 18 #[.agg #[.int .i64 x.k, .int .i64 x.n, .string x.s, .slice a0 x.l.length c0], .agg #[.int .i64 i.k, .int .i64 i.n, .string i.s, .slice a1 i.l.length c1], .agg #[.int .i64 z.k, .int .i64 z.n, .string z.s, .slice a3 z.l.length c3]] w1 (GP w1 px pc) from fun w1 hf => by
    have := nput_any x i z _ _ _ w1 (HX.out.fr hf) (HI.out.fr hf) (HZ.out.fr hf) (by have := HXS.out; omega) (by have := HZS.out; omega)
    rw [hp] at this
    exact this.mono fun e w' ⟨u, h1, h2, h3⟩ => ⟨u, h1, h2, h3.t⟩)
  have RP := hid (show ∀ w1, Fr (fun _ => False) w w1 → Calls Try.prog 25 #[.agg #[.int .i64 x.k, .int .i64 x.n, .string x.s, .slice a0 x.l.length c0], .agg #[.int .i64 i.k, .int .i64 i.n, .string i.s, .slice a1 i.l.length c1], .agg #[.int .i64 z.k, .int .i64 z.n, .string z.s, .slice a3 z.l.length c3]] w1 (GP w1 px pc) from fun w1 hf => by
    have := rputin_any x i z hkx hkz _ _ _ w1 (HX.out.fr hf) (HI.out.fr hf) (HZ.out.fr hf) (by have := HXS.out; omega) (by have := HZS.out; omega)
    rw [hp] at this
    exact this)
  clear hg hs hp hkx hkz hr0 hr1 hr2 hr3
  have b0q0 : w5.cell? ⟨w.heap.size, 0, none⟩ = some (.int .i64 x.k) := by rw [cell_of_row _ _ 0 _ _ _ HB0_5.out]; rfl
  have b0q1 : w5.cell? ⟨w.heap.size, 1, none⟩ = some (.int .i64 x.n) := by rw [cell_of_row _ _ 1 _ _ _ HB0_5.out]; rfl
  have b0q2 : w5.cell? ⟨w.heap.size, 2, none⟩ = some (.string x.s) := by rw [cell_of_row _ _ 2 _ _ _ HB0_5.out]; rfl
  have b0q3 : w5.cell? ⟨w.heap.size, 3, none⟩ = some (.slice a0 x.l.length c0) := by rw [cell_of_row _ _ 3 _ _ _ HB0_5.out]; rfl
  go_wp2_with fail
  refine (rvalue_any x.size x (Nat.le_refl _) (by have := HXS.out; omega) T _ _ (HX.out.fr HF5.out)).mono ?_
  rintro e w6 ⟨uw, rfl, hf, hv⟩
  obtain ⟨vw, rfl, aw, cw, usw, rfl, -⟩ := hv.open
  have hfa := hf.alloc (.cells #[.int .i64 x.k, .int .i64 x.n, .string x.s, .slice aw x.l.length cw] 24)
  have hra := heap_alloc_new w6 (.cells #[.int .i64 x.k, .int .i64 x.n, .string x.s, .slice aw x.l.length cw] 24)
  have hva := hv.t.fr ((Fr.refl (fun _ => False) w6).alloc (.cells #[.int .i64 x.k, .int .i64 x.n, .string x.s, .slice aw x.l.length cw] 24))
  have HF6 := hid (HF5.out.trans' hfa)
  have HB0_6 := hid (hfa.heap HB0_5.out not_false)
  have HB1_6 := hid (hfa.heap HB1_5.out not_false)
  have HB2_6 := hid (hfa.heap HB2_5.out not_false)
  have HB3_6 := hid (hfa.heap HB3_5.out not_false)
  clear HF5 HB0_5 HB1_5 HB2_5 HB3_5
  have KW_6 := hid hra; have KWV_6 := hid hva
  clear hf hv hfa hra hva b0q0 b0q1 b0q2 b0q3
  go_upto_region 7 with fail
  generalize w6.alloc (.cells #[.int .i64 x.k, .int .i64 x.n, .string x.s, .slice aw x.l.length cw] 24) = W6 at *
  have b0q0 : W6.cell? ⟨w.heap.size, 0, none⟩ = some (.int .i64 x.k) := by rw [cell_of_row _ _ 0 _ _ _ HB0_6.out]; rfl
  have b0q1 : W6.cell? ⟨w.heap.size, 1, none⟩ = some (.int .i64 x.n) := by rw [cell_of_row _ _ 1 _ _ _ HB0_6.out]; rfl
  have b0q2 : W6.cell? ⟨w.heap.size, 2, none⟩ = some (.string x.s) := by rw [cell_of_row _ _ 2 _ _ _ HB0_6.out]; rfl
  have b0q3 : W6.cell? ⟨w.heap.size, 3, none⟩ = some (.slice a0 x.l.length c0) := by rw [cell_of_row _ _ 3 _ _ _ HB0_6.out]; rfl
  have b1q0 : W6.cell? ⟨w.heap.size + 1, 0, none⟩ = some (.int .i64 i.k) := by rw [cell_of_row _ _ 0 _ _ _ HB1_6.out]; rfl
  have b1q1 : W6.cell? ⟨w.heap.size + 1, 1, none⟩ = some (.int .i64 i.n) := by rw [cell_of_row _ _ 1 _ _ _ HB1_6.out]; rfl
  have b1q2 : W6.cell? ⟨w.heap.size + 1, 2, none⟩ = some (.string i.s) := by rw [cell_of_row _ _ 2 _ _ _ HB1_6.out]; rfl
  have b1q3 : W6.cell? ⟨w.heap.size + 1, 3, none⟩ = some (.slice a1 i.l.length c1) := by rw [cell_of_row _ _ 3 _ _ _ HB1_6.out]; rfl
  go_wp2_with fail
  refine (KI.out _ HF6.out).mono ?_
  rintro e w7 ⟨ug, rfl, hf, hv⟩
  obtain ⟨vg, rfl, ag, cg, usg, rfl, -⟩ := hv.open
  have hfa := hf.alloc (.cells #[.int .i64 gx.k, .int .i64 gx.n, .string gx.s, .slice ag gx.l.length cg] 24)
  have hra := heap_alloc_new w7 (.cells #[.int .i64 gx.k, .int .i64 gx.n, .string gx.s, .slice ag gx.l.length cg] 24)
  have hva := hv.t.fr ((Fr.refl (fun _ => False) w7).alloc (.cells #[.int .i64 gx.k, .int .i64 gx.n, .string gx.s, .slice ag gx.l.length cg] 24))
  have HF7 := hid (HF6.out.trans' hfa)
  have HB0_7 := hid (hfa.heap HB0_6.out not_false)
  have HB1_7 := hid (hfa.heap HB1_6.out not_false)
  have HB2_7 := hid (hfa.heap HB2_6.out not_false)
  have HB3_7 := hid (hfa.heap HB3_6.out not_false)
  have KW_7 := hid (hfa.heap KW_6.out not_false)
  have KWV_7 := hid (KWV_6.out.fr hfa)
  clear HF6 HB0_6 HB1_6 HB2_6 HB3_6 KW_6 KWV_6
  have G1_7 := hid hra; have G1V_7 := hid hva
  clear hf hv hfa hra hva b0q0 b0q1 b0q2 b0q3 b1q0 b1q1 b1q2 b1q3
  go_upto_region 8 with fail
  generalize w7.alloc (.cells #[.int .i64 gx.k, .int .i64 gx.n, .string gx.s, .slice ag gx.l.length cg] 24) = W7 at *
  have b0q0 : W7.cell? ⟨w.heap.size, 0, none⟩ = some (.int .i64 x.k) := by rw [cell_of_row _ _ 0 _ _ _ HB0_7.out]; rfl
  have b0q1 : W7.cell? ⟨w.heap.size, 1, none⟩ = some (.int .i64 x.n) := by rw [cell_of_row _ _ 1 _ _ _ HB0_7.out]; rfl
  have b0q2 : W7.cell? ⟨w.heap.size, 2, none⟩ = some (.string x.s) := by rw [cell_of_row _ _ 2 _ _ _ HB0_7.out]; rfl
  have b0q3 : W7.cell? ⟨w.heap.size, 3, none⟩ = some (.slice a0 x.l.length c0) := by rw [cell_of_row _ _ 3 _ _ _ HB0_7.out]; rfl
  have b1q0 : W7.cell? ⟨w.heap.size + 1, 0, none⟩ = some (.int .i64 i.k) := by rw [cell_of_row _ _ 0 _ _ _ HB1_7.out]; rfl
  have b1q1 : W7.cell? ⟨w.heap.size + 1, 1, none⟩ = some (.int .i64 i.n) := by rw [cell_of_row _ _ 1 _ _ _ HB1_7.out]; rfl
  have b1q2 : W7.cell? ⟨w.heap.size + 1, 2, none⟩ = some (.string i.s) := by rw [cell_of_row _ _ 2 _ _ _ HB1_7.out]; rfl
  have b1q3 : W7.cell? ⟨w.heap.size + 1, 3, none⟩ = some (.slice a1 i.l.length c1) := by rw [cell_of_row _ _ 3 _ _ _ HB1_7.out]; rfl
  go_wp2_with fail
  refine (RI.out _ HF7.out).mono ?_
  rintro e w8 ⟨uh, rfl, hf, hv⟩
  obtain ⟨vh, rfl, ah, ch, ush, rfl, -⟩ := hv.open
  have hfa := hf.alloc (.cells #[.int .i64 gx.k, .int .i64 gx.n, .string gx.s, .slice ah gx.l.length ch] 24)
  have hra := heap_alloc_new w8 (.cells #[.int .i64 gx.k, .int .i64 gx.n, .string gx.s, .slice ah gx.l.length ch] 24)
  have hva := hv.t.fr ((Fr.refl (fun _ => False) w8).alloc (.cells #[.int .i64 gx.k, .int .i64 gx.n, .string gx.s, .slice ah gx.l.length ch] 24))
  have HF8 := hid (HF7.out.trans' hfa)
  have HB0_8 := hid (hfa.heap HB0_7.out not_false)
  have HB1_8 := hid (hfa.heap HB1_7.out not_false)
  have HB2_8 := hid (hfa.heap HB2_7.out not_false)
  have HB3_8 := hid (hfa.heap HB3_7.out not_false)
  have KW_8 := hid (hfa.heap KW_7.out not_false)
  have G1_8 := hid (hfa.heap G1_7.out not_false)
  have KWV_8 := hid (KWV_7.out.fr hfa)
  have G1V_8 := hid (G1V_7.out.fr hfa)
  clear HF7 HB0_7 HB1_7 HB2_7 HB3_7 KW_7 G1_7 KWV_7 G1V_7
  have G2_8 := hid hra; have G2V_8 := hid hva
  clear hf hv hfa hra hva b0q0 b0q1 b0q2 b0q3 b1q0 b1q1 b1q2 b1q3
  go_upto_region 9 with fail
  generalize w8.alloc (.cells #[.int .i64 gx.k, .int .i64 gx.n, .string gx.s, .slice ah gx.l.length ch] 24) = W8 at *
  have b0q0 : W8.cell? ⟨w.heap.size, 0, none⟩ = some (.int .i64 x.k) := by rw [cell_of_row _ _ 0 _ _ _ HB0_8.out]; rfl
  have b0q1 : W8.cell? ⟨w.heap.size, 1, none⟩ = some (.int .i64 x.n) := by rw [cell_of_row _ _ 1 _ _ _ HB0_8.out]; rfl
  have b0q2 : W8.cell? ⟨w.heap.size, 2, none⟩ = some (.string x.s) := by rw [cell_of_row _ _ 2 _ _ _ HB0_8.out]; rfl
  have b0q3 : W8.cell? ⟨w.heap.size, 3, none⟩ = some (.slice a0 x.l.length c0) := by rw [cell_of_row _ _ 3 _ _ _ HB0_8.out]; rfl
  have b1q0 : W8.cell? ⟨w.heap.size + 1, 0, none⟩ = some (.int .i64 i.k) := by rw [cell_of_row _ _ 0 _ _ _ HB1_8.out]; rfl
  have b1q1 : W8.cell? ⟨w.heap.size + 1, 1, none⟩ = some (.int .i64 i.n) := by rw [cell_of_row _ _ 1 _ _ _ HB1_8.out]; rfl
  have b1q2 : W8.cell? ⟨w.heap.size + 1, 2, none⟩ = some (.string i.s) := by rw [cell_of_row _ _ 2 _ _ _ HB1_8.out]; rfl
  have b1q3 : W8.cell? ⟨w.heap.size + 1, 3, none⟩ = some (.slice a1 i.l.length c1) := by rw [cell_of_row _ _ 3 _ _ _ HB1_8.out]; rfl
  have b2q0 : W8.cell? ⟨w.heap.size + 1 + 1, 0, none⟩ = some (.int .i64 j.k) := by rw [cell_of_row _ _ 0 _ _ _ HB2_8.out]; rfl
  have b2q1 : W8.cell? ⟨w.heap.size + 1 + 1, 1, none⟩ = some (.int .i64 j.n) := by rw [cell_of_row _ _ 1 _ _ _ HB2_8.out]; rfl
  have b2q2 : W8.cell? ⟨w.heap.size + 1 + 1, 2, none⟩ = some (.string j.s) := by rw [cell_of_row _ _ 2 _ _ _ HB2_8.out]; rfl
  have b2q3 : W8.cell? ⟨w.heap.size + 1 + 1, 3, none⟩ = some (.slice a2 j.l.length c2) := by rw [cell_of_row _ _ 3 _ _ _ HB2_8.out]; rfl
  go_wp2_with fail
  refine (KS.out _ HF8.out).mono ?_
  rintro e w9 ⟨um, rfl, hf, hv⟩
  obtain ⟨vm, rfl, am, cm, usm, rfl, -⟩ := hv.open
  have hfa := hf.alloc (.cells #[.int .i64 sx.k, .int .i64 sx.n, .string sx.s, .slice am sx.l.length cm] 24)
  have hra := heap_alloc_new w9 (.cells #[.int .i64 sx.k, .int .i64 sx.n, .string sx.s, .slice am sx.l.length cm] 24)
  have hva := hv.t.fr ((Fr.refl (fun _ => False) w9).alloc (.cells #[.int .i64 sx.k, .int .i64 sx.n, .string sx.s, .slice am sx.l.length cm] 24))
  have HF9 := hid (HF8.out.trans' hfa)
  have HB0_9 := hid (hfa.heap HB0_8.out not_false)
  have HB1_9 := hid (hfa.heap HB1_8.out not_false)
  have HB2_9 := hid (hfa.heap HB2_8.out not_false)
  have HB3_9 := hid (hfa.heap HB3_8.out not_false)
  have KW_9 := hid (hfa.heap KW_8.out not_false)
  have G1_9 := hid (hfa.heap G1_8.out not_false)
  have G2_9 := hid (hfa.heap G2_8.out not_false)
  have KWV_9 := hid (KWV_8.out.fr hfa)
  have G1V_9 := hid (G1V_8.out.fr hfa)
  have G2V_9 := hid (G2V_8.out.fr hfa)
  clear HF8 HB0_8 HB1_8 HB2_8 HB3_8 KW_8 G1_8 G2_8 KWV_8 G1V_8 G2V_8
  have S1_9 := hid hra; have S1V_9 := hid hva
  clear hf hv hfa hra hva b0q0 b0q1 b0q2 b0q3 b1q0 b1q1 b1q2 b1q3 b2q0 b2q1 b2q2 b2q3
  go_upto_region 10 with fail
  generalize w9.alloc (.cells #[.int .i64 sx.k, .int .i64 sx.n, .string sx.s, .slice am sx.l.length cm] 24) = W9 at *
  have b0q0 : W9.cell? ⟨w.heap.size, 0, none⟩ = some (.int .i64 x.k) := by rw [cell_of_row _ _ 0 _ _ _ HB0_9.out]; rfl
  have b0q1 : W9.cell? ⟨w.heap.size, 1, none⟩ = some (.int .i64 x.n) := by rw [cell_of_row _ _ 1 _ _ _ HB0_9.out]; rfl
  have b0q2 : W9.cell? ⟨w.heap.size, 2, none⟩ = some (.string x.s) := by rw [cell_of_row _ _ 2 _ _ _ HB0_9.out]; rfl
  have b0q3 : W9.cell? ⟨w.heap.size, 3, none⟩ = some (.slice a0 x.l.length c0) := by rw [cell_of_row _ _ 3 _ _ _ HB0_9.out]; rfl
  have b1q0 : W9.cell? ⟨w.heap.size + 1, 0, none⟩ = some (.int .i64 i.k) := by rw [cell_of_row _ _ 0 _ _ _ HB1_9.out]; rfl
  have b1q1 : W9.cell? ⟨w.heap.size + 1, 1, none⟩ = some (.int .i64 i.n) := by rw [cell_of_row _ _ 1 _ _ _ HB1_9.out]; rfl
  have b1q2 : W9.cell? ⟨w.heap.size + 1, 2, none⟩ = some (.string i.s) := by rw [cell_of_row _ _ 2 _ _ _ HB1_9.out]; rfl
  have b1q3 : W9.cell? ⟨w.heap.size + 1, 3, none⟩ = some (.slice a1 i.l.length c1) := by rw [cell_of_row _ _ 3 _ _ _ HB1_9.out]; rfl
  have b2q0 : W9.cell? ⟨w.heap.size + 1 + 1, 0, none⟩ = some (.int .i64 j.k) := by rw [cell_of_row _ _ 0 _ _ _ HB2_9.out]; rfl
  have b2q1 : W9.cell? ⟨w.heap.size + 1 + 1, 1, none⟩ = some (.int .i64 j.n) := by rw [cell_of_row _ _ 1 _ _ _ HB2_9.out]; rfl
  have b2q2 : W9.cell? ⟨w.heap.size + 1 + 1, 2, none⟩ = some (.string j.s) := by rw [cell_of_row _ _ 2 _ _ _ HB2_9.out]; rfl
  have b2q3 : W9.cell? ⟨w.heap.size + 1 + 1, 3, none⟩ = some (.slice a2 j.l.length c2) := by rw [cell_of_row _ _ 3 _ _ _ HB2_9.out]; rfl
  go_wp2_with fail
  refine (RS.out _ HF9.out).mono ?_
  rintro e w10 ⟨un, rfl, hf, hv⟩
  obtain ⟨vn, rfl, an, cn, usn, rfl, -⟩ := hv.open
  have hfa := hf.alloc (.cells #[.int .i64 sx.k, .int .i64 sx.n, .string sx.s, .slice an sx.l.length cn] 24)
  have hra := heap_alloc_new w10 (.cells #[.int .i64 sx.k, .int .i64 sx.n, .string sx.s, .slice an sx.l.length cn] 24)
  have hva := hv.t.fr ((Fr.refl (fun _ => False) w10).alloc (.cells #[.int .i64 sx.k, .int .i64 sx.n, .string sx.s, .slice an sx.l.length cn] 24))
  have HF10 := hid (HF9.out.trans' hfa)
  have HB0_10 := hid (hfa.heap HB0_9.out not_false)
  have HB1_10 := hid (hfa.heap HB1_9.out not_false)
  have HB2_10 := hid (hfa.heap HB2_9.out not_false)
  have HB3_10 := hid (hfa.heap HB3_9.out not_false)
  have KW_10 := hid (hfa.heap KW_9.out not_false)
  have G1_10 := hid (hfa.heap G1_9.out not_false)
  have G2_10 := hid (hfa.heap G2_9.out not_false)
  have S1_10 := hid (hfa.heap S1_9.out not_false)
  have KWV_10 := hid (KWV_9.out.fr hfa)
  have G1V_10 := hid (G1V_9.out.fr hfa)
  have G2V_10 := hid (G2V_9.out.fr hfa)
  have S1V_10 := hid (S1V_9.out.fr hfa)
  clear HF9 HB0_9 HB1_9 HB2_9 HB3_9 KW_9 G1_9 G2_9 S1_9 KWV_9 G1V_9 G2V_9 S1V_9
  have S2_10 := hid hra; have S2V_10 := hid hva
  clear hf hv hfa hra hva b0q0 b0q1 b0q2 b0q3 b1q0 b1q1 b1q2 b1q3 b2q0 b2q1 b2q2 b2q3
  go_upto_region 11 with fail
  generalize w10.alloc (.cells #[.int .i64 sx.k, .int .i64 sx.n, .string sx.s, .slice an sx.l.length cn] 24) = W10 at *
  have b0q0 : W10.cell? ⟨w.heap.size, 0, none⟩ = some (.int .i64 x.k) := by rw [cell_of_row _ _ 0 _ _ _ HB0_10.out]; rfl
  have b0q1 : W10.cell? ⟨w.heap.size, 1, none⟩ = some (.int .i64 x.n) := by rw [cell_of_row _ _ 1 _ _ _ HB0_10.out]; rfl
  have b0q2 : W10.cell? ⟨w.heap.size, 2, none⟩ = some (.string x.s) := by rw [cell_of_row _ _ 2 _ _ _ HB0_10.out]; rfl
  have b0q3 : W10.cell? ⟨w.heap.size, 3, none⟩ = some (.slice a0 x.l.length c0) := by rw [cell_of_row _ _ 3 _ _ _ HB0_10.out]; rfl
  have b1q0 : W10.cell? ⟨w.heap.size + 1, 0, none⟩ = some (.int .i64 i.k) := by rw [cell_of_row _ _ 0 _ _ _ HB1_10.out]; rfl
  have b1q1 : W10.cell? ⟨w.heap.size + 1, 1, none⟩ = some (.int .i64 i.n) := by rw [cell_of_row _ _ 1 _ _ _ HB1_10.out]; rfl
  have b1q2 : W10.cell? ⟨w.heap.size + 1, 2, none⟩ = some (.string i.s) := by rw [cell_of_row _ _ 2 _ _ _ HB1_10.out]; rfl
  have b1q3 : W10.cell? ⟨w.heap.size + 1, 3, none⟩ = some (.slice a1 i.l.length c1) := by rw [cell_of_row _ _ 3 _ _ _ HB1_10.out]; rfl
  have b3q0 : W10.cell? ⟨w.heap.size + 1 + 1 + 1, 0, none⟩ = some (.int .i64 z.k) := by rw [cell_of_row _ _ 0 _ _ _ HB3_10.out]; rfl
  have b3q1 : W10.cell? ⟨w.heap.size + 1 + 1 + 1, 1, none⟩ = some (.int .i64 z.n) := by rw [cell_of_row _ _ 1 _ _ _ HB3_10.out]; rfl
  have b3q2 : W10.cell? ⟨w.heap.size + 1 + 1 + 1, 2, none⟩ = some (.string z.s) := by rw [cell_of_row _ _ 2 _ _ _ HB3_10.out]; rfl
  have b3q3 : W10.cell? ⟨w.heap.size + 1 + 1 + 1, 3, none⟩ = some (.slice a3 z.l.length c3) := by rw [cell_of_row _ _ 3 _ _ _ HB3_10.out]; rfl
  go_wp2_with fail
  refine (KP.out _ HF10.out).mono ?_
  rintro e w11 ⟨up, rfl, hf, hv⟩
  obtain ⟨vp, rfl, ap, cp, usp, rfl, -⟩ := hv.open
  have hfa := hf.alloc (.cells #[.int .i64 px.k, .int .i64 px.n, .string px.s, .slice ap px.l.length cp] 24)
  have hra := heap_alloc_new w11 (.cells #[.int .i64 px.k, .int .i64 px.n, .string px.s, .slice ap px.l.length cp] 24)
  have hva := hv.t.fr ((Fr.refl (fun _ => False) w11).alloc (.cells #[.int .i64 px.k, .int .i64 px.n, .string px.s, .slice ap px.l.length cp] 24))
  have HF11 := hid (HF10.out.trans' hfa)
  have HB0_11 := hid (hfa.heap HB0_10.out not_false)
  have HB1_11 := hid (hfa.heap HB1_10.out not_false)
  have HB2_11 := hid (hfa.heap HB2_10.out not_false)
  have HB3_11 := hid (hfa.heap HB3_10.out not_false)
  have KW_11 := hid (hfa.heap KW_10.out not_false)
  have G1_11 := hid (hfa.heap G1_10.out not_false)
  have G2_11 := hid (hfa.heap G2_10.out not_false)
  have S1_11 := hid (hfa.heap S1_10.out not_false)
  have S2_11 := hid (hfa.heap S2_10.out not_false)
  have KWV_11 := hid (KWV_10.out.fr hfa)
  have G1V_11 := hid (G1V_10.out.fr hfa)
  have G2V_11 := hid (G2V_10.out.fr hfa)
  have S1V_11 := hid (S1V_10.out.fr hfa)
  have S2V_11 := hid (S2V_10.out.fr hfa)
  clear HF10 HB0_10 HB1_10 HB2_10 HB3_10 KW_10 G1_10 G2_10 S1_10 S2_10 KWV_10 G1V_10 G2V_10 S1V_10 S2V_10
  have P1_11 := hid hra; have P1V_11 := hid hva
  clear hf hv hfa hra hva b0q0 b0q1 b0q2 b0q3 b1q0 b1q1 b1q2 b1q3 b3q0 b3q1 b3q2 b3q3
  go_upto_region 12 with fail
  generalize w11.alloc (.cells #[.int .i64 px.k, .int .i64 px.n, .string px.s, .slice ap px.l.length cp] 24) = W11 at *
  have b0q0 : W11.cell? ⟨w.heap.size, 0, none⟩ = some (.int .i64 x.k) := by rw [cell_of_row _ _ 0 _ _ _ HB0_11.out]; rfl
  have b0q1 : W11.cell? ⟨w.heap.size, 1, none⟩ = some (.int .i64 x.n) := by rw [cell_of_row _ _ 1 _ _ _ HB0_11.out]; rfl
  have b0q2 : W11.cell? ⟨w.heap.size, 2, none⟩ = some (.string x.s) := by rw [cell_of_row _ _ 2 _ _ _ HB0_11.out]; rfl
  have b0q3 : W11.cell? ⟨w.heap.size, 3, none⟩ = some (.slice a0 x.l.length c0) := by rw [cell_of_row _ _ 3 _ _ _ HB0_11.out]; rfl
  have b1q0 : W11.cell? ⟨w.heap.size + 1, 0, none⟩ = some (.int .i64 i.k) := by rw [cell_of_row _ _ 0 _ _ _ HB1_11.out]; rfl
  have b1q1 : W11.cell? ⟨w.heap.size + 1, 1, none⟩ = some (.int .i64 i.n) := by rw [cell_of_row _ _ 1 _ _ _ HB1_11.out]; rfl
  have b1q2 : W11.cell? ⟨w.heap.size + 1, 2, none⟩ = some (.string i.s) := by rw [cell_of_row _ _ 2 _ _ _ HB1_11.out]; rfl
  have b1q3 : W11.cell? ⟨w.heap.size + 1, 3, none⟩ = some (.slice a1 i.l.length c1) := by rw [cell_of_row _ _ 3 _ _ _ HB1_11.out]; rfl
  have b3q0 : W11.cell? ⟨w.heap.size + 1 + 1 + 1, 0, none⟩ = some (.int .i64 z.k) := by rw [cell_of_row _ _ 0 _ _ _ HB3_11.out]; rfl
  have b3q1 : W11.cell? ⟨w.heap.size + 1 + 1 + 1, 1, none⟩ = some (.int .i64 z.n) := by rw [cell_of_row _ _ 1 _ _ _ HB3_11.out]; rfl
  have b3q2 : W11.cell? ⟨w.heap.size + 1 + 1 + 1, 2, none⟩ = some (.string z.s) := by rw [cell_of_row _ _ 2 _ _ _ HB3_11.out]; rfl
  have b3q3 : W11.cell? ⟨w.heap.size + 1 + 1 + 1, 3, none⟩ = some (.slice a3 z.l.length c3) := by rw [cell_of_row _ _ 3 _ _ _ HB3_11.out]; rfl
  go_wp2_with fail
  refine (RP.out _ HF11.out).mono ?_
  rintro e w12 ⟨uq, rfl, hf, hv⟩
  obtain ⟨vq, rfl, aq, cq, usq, rfl, -⟩ := hv.open
  have hfa := hf.alloc (.cells #[.int .i64 px.k, .int .i64 px.n, .string px.s, .slice aq px.l.length cq] 24)
  have hra := heap_alloc_new w12 (.cells #[.int .i64 px.k, .int .i64 px.n, .string px.s, .slice aq px.l.length cq] 24)
  have hva := hv.t.fr ((Fr.refl (fun _ => False) w12).alloc (.cells #[.int .i64 px.k, .int .i64 px.n, .string px.s, .slice aq px.l.length cq] 24))
  have HF12 := hid (HF11.out.trans' hfa)
  have HB0_12 := hid (hfa.heap HB0_11.out not_false)
  have HB1_12 := hid (hfa.heap HB1_11.out not_false)
  have HB2_12 := hid (hfa.heap HB2_11.out not_false)
  have HB3_12 := hid (hfa.heap HB3_11.out not_false)
  have KW_12 := hid (hfa.heap KW_11.out not_false)
  have G1_12 := hid (hfa.heap G1_11.out not_false)
  have G2_12 := hid (hfa.heap G2_11.out not_false)
  have S1_12 := hid (hfa.heap S1_11.out not_false)
  have S2_12 := hid (hfa.heap S2_11.out not_false)
  have P1_12 := hid (hfa.heap P1_11.out not_false)
  have KWV_12 := hid (KWV_11.out.fr hfa)
  have G1V_12 := hid (G1V_11.out.fr hfa)
  have G2V_12 := hid (G2V_11.out.fr hfa)
  have S1V_12 := hid (S1V_11.out.fr hfa)
  have S2V_12 := hid (S2V_11.out.fr hfa)
  have P1V_12 := hid (P1V_11.out.fr hfa)
  clear HF11 HB0_11 HB1_11 HB2_11 HB3_11 KW_11 G1_11 G2_11 S1_11 S2_11 P1_11 KWV_11 G1V_11 G2V_11 S1V_11 S2V_11 P1V_11
  have P2_12 := hid hra; have P2V_12 := hid hva
  clear hf hv hfa hra hva b0q0 b0q1 b0q2 b0q3 b1q0 b1q1 b1q2 b1q3 b3q0 b3q1 b3q2 b3q3
  go_upto_region 13 with fail
  generalize w12.alloc (.cells #[.int .i64 px.k, .int .i64 px.n, .string px.s, .slice aq px.l.length cq] 24) = W12 at *
  have y0 : W12.cell? ⟨w7.heap.size, 0, none⟩ = some (.int .i64 gx.k) := by rw [cell_of_row _ _ 0 _ _ _ G1_12.out]; rfl
  have y1 : W12.cell? ⟨w7.heap.size, 1, none⟩ = some (.int .i64 gx.n) := by rw [cell_of_row _ _ 1 _ _ _ G1_12.out]; rfl
  have y2 : W12.cell? ⟨w7.heap.size, 2, none⟩ = some (.string gx.s) := by rw [cell_of_row _ _ 2 _ _ _ G1_12.out]; rfl
  have y3 : W12.cell? ⟨w7.heap.size, 3, none⟩ = some (.slice ag gx.l.length cg) := by rw [cell_of_row _ _ 3 _ _ _ G1_12.out]; rfl
  have t0 : W12.cell? ⟨w8.heap.size, 0, none⟩ = some (.int .i64 gx.k) := by rw [cell_of_row _ _ 0 _ _ _ G2_12.out]; rfl
  have t1 : W12.cell? ⟨w8.heap.size, 1, none⟩ = some (.int .i64 gx.n) := by rw [cell_of_row _ _ 1 _ _ _ G2_12.out]; rfl
  have t2 : W12.cell? ⟨w8.heap.size, 2, none⟩ = some (.string gx.s) := by rw [cell_of_row _ _ 2 _ _ _ G2_12.out]; rfl
  have t3 : W12.cell? ⟨w8.heap.size, 3, none⟩ = some (.slice ah gx.l.length ch) := by rw [cell_of_row _ _ 3 _ _ _ G2_12.out]; rfl
  go_wp2_with fail
  refine (rsame_refl gx.size gx (Nat.le_refl _) T T _ _ _ G1V_12.out G2V_12.out).mono ?_
  rintro e w13 ⟨rfl, hf⟩
  have HF13 := hid (HF12.out.trans' hf)
  have HB0_13 := hid (hf.heap HB0_12.out not_false)
  have HB1_13 := hid (hf.heap HB1_12.out not_false)
  have HB2_13 := hid (hf.heap HB2_12.out not_false)
  have HB3_13 := hid (hf.heap HB3_12.out not_false)
  have KW_13 := hid (hf.heap KW_12.out not_false)
  have G1_13 := hid (hf.heap G1_12.out not_false)
  have G2_13 := hid (hf.heap G2_12.out not_false)
  have S1_13 := hid (hf.heap S1_12.out not_false)
  have S2_13 := hid (hf.heap S2_12.out not_false)
  have P1_13 := hid (hf.heap P1_12.out not_false)
  have P2_13 := hid (hf.heap P2_12.out not_false)
  have KWV_13 := hid (KWV_12.out.fr hf)
  have G1V_13 := hid (G1V_12.out.fr hf)
  have G2V_13 := hid (G2V_12.out.fr hf)
  have S1V_13 := hid (S1V_12.out.fr hf)
  have S2V_13 := hid (S2V_12.out.fr hf)
  have P1V_13 := hid (P1V_12.out.fr hf)
  have P2V_13 := hid (P2V_12.out.fr hf)
  clear HF12 HB0_12 HB1_12 HB2_12 HB3_12 KW_12 G1_12 G2_12 S1_12 S2_12 P1_12 P2_12 KWV_12 G1V_12 G2V_12 S1V_12 S2V_12 P1V_12 P2V_12
  clear hf y0 y1 y2 y3 t0 t1 t2 t3
  have y0 : w13.cell? ⟨w9.heap.size, 0, none⟩ = some (.int .i64 sx.k) := by rw [cell_of_row _ _ 0 _ _ _ S1_13.out]; rfl
  have y1 : w13.cell? ⟨w9.heap.size, 1, none⟩ = some (.int .i64 sx.n) := by rw [cell_of_row _ _ 1 _ _ _ S1_13.out]; rfl
  have y2 : w13.cell? ⟨w9.heap.size, 2, none⟩ = some (.string sx.s) := by rw [cell_of_row _ _ 2 _ _ _ S1_13.out]; rfl
  have y3 : w13.cell? ⟨w9.heap.size, 3, none⟩ = some (.slice am sx.l.length cm) := by rw [cell_of_row _ _ 3 _ _ _ S1_13.out]; rfl
  have t0 : w13.cell? ⟨w10.heap.size, 0, none⟩ = some (.int .i64 sx.k) := by rw [cell_of_row _ _ 0 _ _ _ S2_13.out]; rfl
  have t1 : w13.cell? ⟨w10.heap.size, 1, none⟩ = some (.int .i64 sx.n) := by rw [cell_of_row _ _ 1 _ _ _ S2_13.out]; rfl
  have t2 : w13.cell? ⟨w10.heap.size, 2, none⟩ = some (.string sx.s) := by rw [cell_of_row _ _ 2 _ _ _ S2_13.out]; rfl
  have t3 : w13.cell? ⟨w10.heap.size, 3, none⟩ = some (.slice an sx.l.length cn) := by rw [cell_of_row _ _ 3 _ _ _ S2_13.out]; rfl
  go_wp2_with fail
  refine (rsame_refl sx.size sx (Nat.le_refl _) T T _ _ _ S1V_13.out S2V_13.out).mono ?_
  rintro e w14 ⟨rfl, hf⟩
  have HF14 := hid (HF13.out.trans' hf)
  have HB0_14 := hid (hf.heap HB0_13.out not_false)
  have HB1_14 := hid (hf.heap HB1_13.out not_false)
  have HB2_14 := hid (hf.heap HB2_13.out not_false)
  have HB3_14 := hid (hf.heap HB3_13.out not_false)
  have KW_14 := hid (hf.heap KW_13.out not_false)
  have G1_14 := hid (hf.heap G1_13.out not_false)
  have G2_14 := hid (hf.heap G2_13.out not_false)
  have S1_14 := hid (hf.heap S1_13.out not_false)
  have S2_14 := hid (hf.heap S2_13.out not_false)
  have P1_14 := hid (hf.heap P1_13.out not_false)
  have P2_14 := hid (hf.heap P2_13.out not_false)
  have KWV_14 := hid (KWV_13.out.fr hf)
  have G1V_14 := hid (G1V_13.out.fr hf)
  have G2V_14 := hid (G2V_13.out.fr hf)
  have S1V_14 := hid (S1V_13.out.fr hf)
  have S2V_14 := hid (S2V_13.out.fr hf)
  have P1V_14 := hid (P1V_13.out.fr hf)
  have P2V_14 := hid (P2V_13.out.fr hf)
  clear HF13 HB0_13 HB1_13 HB2_13 HB3_13 KW_13 G1_13 G2_13 S1_13 S2_13 P1_13 P2_13 KWV_13 G1V_13 G2V_13 S1V_13 S2V_13 P1V_13 P2V_13
  clear hf y0 y1 y2 y3 t0 t1 t2 t3
  have y0 : w14.cell? ⟨w11.heap.size, 0, none⟩ = some (.int .i64 px.k) := by rw [cell_of_row _ _ 0 _ _ _ P1_14.out]; rfl
  have y1 : w14.cell? ⟨w11.heap.size, 1, none⟩ = some (.int .i64 px.n) := by rw [cell_of_row _ _ 1 _ _ _ P1_14.out]; rfl
  have y2 : w14.cell? ⟨w11.heap.size, 2, none⟩ = some (.string px.s) := by rw [cell_of_row _ _ 2 _ _ _ P1_14.out]; rfl
  have y3 : w14.cell? ⟨w11.heap.size, 3, none⟩ = some (.slice ap px.l.length cp) := by rw [cell_of_row _ _ 3 _ _ _ P1_14.out]; rfl
  have t0 : w14.cell? ⟨w12.heap.size, 0, none⟩ = some (.int .i64 px.k) := by rw [cell_of_row _ _ 0 _ _ _ P2_14.out]; rfl
  have t1 : w14.cell? ⟨w12.heap.size, 1, none⟩ = some (.int .i64 px.n) := by rw [cell_of_row _ _ 1 _ _ _ P2_14.out]; rfl
  have t2 : w14.cell? ⟨w12.heap.size, 2, none⟩ = some (.string px.s) := by rw [cell_of_row _ _ 2 _ _ _ P2_14.out]; rfl
  have t3 : w14.cell? ⟨w12.heap.size, 3, none⟩ = some (.slice aq px.l.length cq) := by rw [cell_of_row _ _ 3 _ _ _ P2_14.out]; rfl
  go_wp2_with fail
  refine (rsame_refl px.size px (Nat.le_refl _) T T _ _ _ P1V_14.out P2V_14.out).mono ?_
  rintro e w15 ⟨rfl, hf⟩
  have HF15 := hid (HF14.out.trans' hf)
  have HB0_15 := hid (hf.heap HB0_14.out not_false)
  have HB1_15 := hid (hf.heap HB1_14.out not_false)
  have HB2_15 := hid (hf.heap HB2_14.out not_false)
  have HB3_15 := hid (hf.heap HB3_14.out not_false)
  have KW_15 := hid (hf.heap KW_14.out not_false)
  have G1_15 := hid (hf.heap G1_14.out not_false)
  have G2_15 := hid (hf.heap G2_14.out not_false)
  have S1_15 := hid (hf.heap S1_14.out not_false)
  have S2_15 := hid (hf.heap S2_14.out not_false)
  have P1_15 := hid (hf.heap P1_14.out not_false)
  have P2_15 := hid (hf.heap P2_14.out not_false)
  have KWV_15 := hid (KWV_14.out.fr hf)
  have G1V_15 := hid (G1V_14.out.fr hf)
  have G2V_15 := hid (G2V_14.out.fr hf)
  have S1V_15 := hid (S1V_14.out.fr hf)
  have S2V_15 := hid (S2V_14.out.fr hf)
  have P1V_15 := hid (P1V_14.out.fr hf)
  have P2V_15 := hid (P2V_14.out.fr hf)
  clear HF14 HB0_14 HB1_14 HB2_14 HB3_14 KW_14 G1_14 G2_14 S1_14 S2_14 P1_14 P2_14 KWV_14 G1V_14 G2V_14 S1V_14 S2V_14 P1V_14 P2V_14
  clear hf y0 y1 y2 y3 t0 t1 t2 t3
  have y0 : w15.cell? ⟨w.heap.size, 0, none⟩ = some (.int .i64 x.k) := by rw [cell_of_row _ _ 0 _ _ _ HB0_15.out]; rfl
  have y1 : w15.cell? ⟨w.heap.size, 1, none⟩ = some (.int .i64 x.n) := by rw [cell_of_row _ _ 1 _ _ _ HB0_15.out]; rfl
  have y2 : w15.cell? ⟨w.heap.size, 2, none⟩ = some (.string x.s) := by rw [cell_of_row _ _ 2 _ _ _ HB0_15.out]; rfl
  have y3 : w15.cell? ⟨w.heap.size, 3, none⟩ = some (.slice a0 x.l.length c0) := by rw [cell_of_row _ _ 3 _ _ _ HB0_15.out]; rfl
  have t0 : w15.cell? ⟨w6.heap.size, 0, none⟩ = some (.int .i64 x.k) := by rw [cell_of_row _ _ 0 _ _ _ KW_15.out]; rfl
  have t1 : w15.cell? ⟨w6.heap.size, 1, none⟩ = some (.int .i64 x.n) := by rw [cell_of_row _ _ 1 _ _ _ KW_15.out]; rfl
  have t2 : w15.cell? ⟨w6.heap.size, 2, none⟩ = some (.string x.s) := by rw [cell_of_row _ _ 2 _ _ _ KW_15.out]; rfl
  have t3 : w15.cell? ⟨w6.heap.size, 3, none⟩ = some (.slice aw x.l.length cw) := by rw [cell_of_row _ _ 3 _ _ _ KW_15.out]; rfl
  go_wp2_with fail
  refine (rsame_refl x.size x (Nat.le_refl _) T T _ _ _ (HX.out.fr HF15.out) KWV_15.out).mono ?_
  rintro e w16 ⟨rfl, hf⟩
  have HF16 := hid (HF15.out.trans' hf)
  have HB0_16 := hid (hf.heap HB0_15.out not_false)
  have HB1_16 := hid (hf.heap HB1_15.out not_false)
  have HB2_16 := hid (hf.heap HB2_15.out not_false)
  have HB3_16 := hid (hf.heap HB3_15.out not_false)
  have KW_16 := hid (hf.heap KW_15.out not_false)
  have G1_16 := hid (hf.heap G1_15.out not_false)
  have G2_16 := hid (hf.heap G2_15.out not_false)
  have S1_16 := hid (hf.heap S1_15.out not_false)
  have S2_16 := hid (hf.heap S2_15.out not_false)
  have P1_16 := hid (hf.heap P1_15.out not_false)
  have P2_16 := hid (hf.heap P2_15.out not_false)
  have KWV_16 := hid (KWV_15.out.fr hf)
  have G1V_16 := hid (G1V_15.out.fr hf)
  have G2V_16 := hid (G2V_15.out.fr hf)
  have S1V_16 := hid (S1V_15.out.fr hf)
  have S2V_16 := hid (S2V_15.out.fr hf)
  have P1V_16 := hid (P1V_15.out.fr hf)
  have P2V_16 := hid (P2V_15.out.fr hf)
  clear HF15 HB0_15 HB1_15 HB2_15 HB3_15 KW_15 G1_15 G2_15 S1_15 S2_15 P1_15 P2_15 KWV_15 G1V_15 G2V_15 S1V_15 S2V_15 P1V_15 P2V_15
  clear hf y0 y1 y2 y3 t0 t1 t2 t3
  go_wp2_with fail
  go_ret
  exact ⟨rfl, HF16.out⟩
end Go.Proofs.Ytjngddmjgcecnaa
