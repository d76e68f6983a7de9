/- Package num: Two texts, one behind the other. -/
import Derived.Test.YtjngddmjgcecnaaNumC
import Derived.Test.YtjngddmjgcecnaaNumF
import Derived.Test.YtjngddmjgcecnaaStrJoin
namespace Go.Proofs.Ytjngddmjgcecnaa
open Go.RowKit

/-- Two rows of a value's four cells, and an empty one. -/
theorem three' (A B : Obj) (w : World) : Fr (fun _ => False) w (((w.alloc A).alloc B).alloc (.cells #[.int .i64 0, .int .i64 0, .string ⟨#[]⟩, .slice none 0 0] 24)) ∧ (((w.alloc A).alloc B).alloc (.cells #[.int .i64 0, .int .i64 0, .string ⟨#[]⟩, .slice none 0 0] 24)).heap.size = w.heap.size + 1 + 1 + 1 := by
  refine ⟨(((Fr.refl _ _).alloc _).alloc _).alloc _, by simp⟩

set_option maxRecDepth 100000 in
set_option maxHeartbeats 3200000 in
theorem two_add (a b : ByteArray) (ha : a.size ≤ 3000) (hb : b.size ≤ 3000) (w : World) :
    Calls Try.prog 10 #[.int .i64 5, .agg #[.int .i64 2, .int .i64 0, .string a, .slice none 0 0], .agg #[.int .i64 2, .int .i64 0, .string b, .slice none 0 0]] w fun e w' =>
      e = .returned (.tuple #[.agg (if a.size + b.size < 4096 then #[.int .i64 2, .int .i64 0, .string (a ++ b), .slice none 0 0] else #[.int .i64 0, .int .i64 0, .string ⟨#[]⟩, .slice none 0 0]), .int .i64 (if a.size + b.size < 4096 then 0 else 14)]) ∧ Fr (fun _ => False) w w' := by
  obtain ⟨hf, hr⟩ := three (.cells #[.int .i64 2, .int .i64 0, .string a, .slice none 0 0] 24) (.cells #[.int .i64 2, .int .i64 0, .string b, .slice none 0 0] 24) w
  have hsz := (three' (.cells #[.int .i64 2, .int .i64 0, .string a, .slice none 0 0] 24) (.cells #[.int .i64 2, .int .i64 0, .string b, .slice none 0 0] 24) w).2
  have HF0 := hid hf; have HR0 := hid hr
  have hfa := hf.alloc (.cells #[.string a, .string b] 9)
  have hra := heap_alloc_new (((w.alloc (.cells #[.int .i64 2, .int .i64 0, .string a, .slice none 0 0] 24)).alloc (.cells #[.int .i64 2, .int .i64 0, .string b, .slice none 0 0] 24)).alloc (.cells #[.int .i64 0, .int .i64 0, .string ⟨#[]⟩, .slice none 0 0] 24)) (.cells #[.string a, .string b] 9)
  have hrb := ((Fr.refl (fun _ => False) (((w.alloc (.cells #[.int .i64 2, .int .i64 0, .string a, .slice none 0 0] 24)).alloc (.cells #[.int .i64 2, .int .i64 0, .string b, .slice none 0 0] 24)).alloc (.cells #[.int .i64 0, .int .i64 0, .string ⟨#[]⟩, .slice none 0 0] 24))).alloc (.cells #[.string a, .string b] 9)).heap hr not_false
  have hj := join2_any a b _ _ (by rw [cell_of_row _ _ 0 _ _ _ hra]; rfl) (by rw [cell_of_row _ _ 1 _ _ _ hra]; rfl) ha hb
  have HFA := hid hfa; have HRB := hid hrb
  rw [hsz] at hj
  unfold pJoin at hj
  clear hf hr hfa hra hrb hsz
  by_cases hlt : a.size + b.size < 4096
  · rw [if_pos hlt] at hj
    rw [if_pos hlt, if_pos hlt]
    have HJ := hid hj
    clear hj
    go_enter Try.func10, Try.ntmps10
    go_wp2_with fail
    refine HJ.out.mono ?_
    rintro e w1 ⟨rfl, hf1⟩
    have HF1 := hid (HFA.out.trans' hf1); have HR1 := hid (hf1.heap HRB.out not_false)
    clear hf1
    go_wp2_with fail
    refine (vS_any (a ++ b) _).mono ?_
    rintro e w2 ⟨rfl, hf2⟩
    obtain ⟨hR, hf5, z0, z1, z2, z3, zf⟩ := set4 (hf2.heap HR1.out not_false) (.int .i64 2) (.int .i64 0) (.string (a ++ b)) (.slice none 0 0)
    have HRR := hid hR
    have HF5 := hid ((HF1.out.trans' hf2).trans hf5 (U := fun _ => False) (fun _ _ h => h) (fun q hq e => by omega))
    clear hR hf5 hf2
    go_wp2_with fail
    refine bodyPost_ret (results_ct rfl _ _ (w.heap.size + 1 + 1) _ _ _ _ rfl HRR.out Try.underlying24 rfl (by kernel_rfl)) rfl ?_
    exact ⟨rfl, HF5.out⟩
  · rw [if_neg hlt] at hj
    rw [if_neg hlt, if_neg hlt]
    have HJ := hid hj
    clear hj
    go_enter Try.func10, Try.ntmps10
    go_wp2_with fail
    refine HJ.out.mono ?_
    rintro e w1 ⟨rfl, hf1⟩
    have HF1 := hid (HFA.out.trans' hf1); have HR1 := hid (hf1.heap HRB.out not_false)
    clear hf1
    go_wp2_with fail
    refine (raised_any 14 _).mono ?_
    rintro e w2 ⟨rfl, hf2⟩
    obtain ⟨hR, hf5, z0, z1, z2, z3, zf⟩ := set4 (hf2.heap HR1.out not_false) (.int .i64 0) (.int .i64 0) (.string ⟨#[]⟩) (.slice none 0 0)
    have HRR := hid hR
    have HF5 := hid ((HF1.out.trans' hf2).trans hf5 (U := fun _ => False) (fun _ _ h => h) (fun q hq e => by omega))
    clear hR hf5 hf2
    go_wp2_with fail
    refine bodyPost_ret (results_ct rfl _ _ (w.heap.size + 1 + 1) _ _ _ _ rfl HRR.out Try.underlying24 rfl (by kernel_rfl)) rfl ?_
    exact ⟨rfl, HF5.out⟩

/-! ### Plain -/
theorem ba_extract_left (a b : ByteArray) : (a ++ b).extract 0 a.size = a := by
  apply ByteArray.ext
  rw [ByteArray.data_extract, ByteArray.data_append]
  show (a.data ++ b.data).extract 0 a.data.size = a.data
  simp
theorem ba_extract_right (a b : ByteArray) : (a ++ b).extract a.size (a.size + b.size) = b := by
  apply ByteArray.ext
  rw [ByteArray.data_extract, ByteArray.data_append]
  show (a.data ++ b.data).extract a.data.size (a.data.size + b.data.size) = b.data
  apply Array.ext'
  rw [Array.toList_extract, Array.toList_append]
  simp [List.extract, ← Array.length_toList]
theorem ba_size (a b : ByteArray) : (a ++ b).size = a.size + b.size := ByteArray.size_append
theorem slice_text (s : ByteArray) (i j : Int) : nSlice (VS s) (VI i) (VI j) = if (pCutS s i j).2 = 0 then (VS (pCutS s i j).1, 0) else (V0, (pCutS s i j).2) := by
  unfold nSlice
  rw [if_neg (by intro e; rcases e with e | e | e; exact e rfl; exact e rfl; exact Bool.noConfusion ((show isRows (VS s) = true from rfl).symm.trans e)), if_neg (show ¬ (VS s).k = 4 by show ¬ (2 : Int) = 4; decide)]
  rfl
theorem cut_a (a b : ByteArray) : nSlice (VS (a ++ b)) (VI 1) (VI a.size) = (VS a, 0) := by
  rw [slice_text]
  have : pCutS (a ++ b) 1 a.size = (a, 0) := by
    unfold pCutS
    have hs := ba_size a b
    by_cases h : (a.size : Int) < 1
    · rw [if_pos h]
      have h0 : a.size = 0 := by omega
      have : a = ⟨#[]⟩ := by
        apply ByteArray.ext
        exact Array.eq_empty_of_size_eq_zero h0
      rw [this]
    · rw [if_neg h, if_neg (by omega), show ((1 : Int).toNat - 1) = 0 from rfl, Int.toNat_natCast, ba_extract_left]
  rw [this]
  rfl
theorem cut_b (a b : ByteArray) : nSlice (VS (a ++ b)) (VI ((a.size : Int) + 1)) (VI ((a.size : Int) + b.size)) = (VS b, 0) := by
  rw [slice_text]
  have : pCutS (a ++ b) ((a.size : Int) + 1) ((a.size : Int) + b.size) = (b, 0) := by
    unfold pCutS
    have hs := ba_size a b
    by_cases h : (a.size : Int) + b.size < (a.size : Int) + 1
    · rw [if_pos h]
      have h0 : b.size = 0 := by omega
      have : b = ⟨#[]⟩ := by
        apply ByteArray.ext
        exact Array.eq_empty_of_size_eq_zero h0
      rw [this]
    · rw [if_neg h, if_neg (by omega), show ((a.size : Int) + 1).toNat - 1 = a.size by omega, show ((a.size : Int) + b.size).toNat = a.size + b.size by omega, ba_extract_right]
  rw [this]
  rfl
theorem idx_text (s : ByteArray) (k : Nat) (hk : k < s.size) : pIdx (VS s) (VI ((k : Int) + 1)) = (VS (s.extract k (k + 1)), 0) := by
  unfold pIdx
  rw [if_neg (by intro e; rcases e with e | e; exact e rfl; exact Bool.noConfusion ((show isRows (VS s) = true from rfl).symm.trans e)), if_neg (show ¬ (VS s).k = 4 by show ¬ (2 : Int) = 4; decide), show (VI ((k : Int) + 1)).n = (k : Int) + 1 from rfl, show (VS s).s = s from rfl, if_neg (by omega), show ((k : Int) + 1).toNat = k + 1 by omega]
  rfl
theorem put_text (s t : ByteArray) (k : Nat) (hk : k < s.size) (ht : t.size = 1) : nPut (VS s) (VI ((k : Int) + 1)) (VS t) = (VS (s.extract 0 k ++ t ++ s.extract (k + 1) s.size), 0) := by
  unfold nPut
  rw [if_neg (by intro e; rcases e with e | e; exact e rfl; exact Bool.noConfusion ((show isRows (VS s) = true from rfl).symm.trans e)), if_neg (show ¬ (VS s).k = 4 by show ¬ (2 : Int) = 4; decide), if_neg (by intro e; rcases e with e | e; exact e rfl; exact e ht), show (VI ((k : Int) + 1)).n = (k : Int) + 1 from rfl, show (VS s).s = s from rfl, if_neg (by omega), show ((k : Int) + 1).toNat = k + 1 by omega]
  rfl
end Go.Proofs.Ytjngddmjgcecnaa
