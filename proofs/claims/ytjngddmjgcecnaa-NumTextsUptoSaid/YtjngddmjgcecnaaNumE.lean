/- Package num: Slice, Put; cuts of texts. -/
import Derived.Test.YtjngddmjgcecnaaNumD
import Derived.Test.YtjngddmjgcecnaaSteps
namespace Go.Proofs.Ytjngddmjgcecnaa
open Go.RowKit

def pCutS (s : ByteArray) (i j : Int) : ByteArray × Int := if j < i then (⟨#[]⟩, 0) else if i < 1 ∨ (s.size : Int) < j then (⟨#[]⟩, 10) else (s.extract (i.toNat - 1) j.toNat, 0)
theorem strCut_any (s : ByteArray) (i j : Int) (w : World) (hs : s.size ≤ 1073741824) : Calls Try.prog 43 #[.string s, .int .i64 i, .int .i64 j] w fun e w' => e = .returned (.tuple #[.string (pCutS s i j).1, .int .i64 (pCutS s i j).2]) ∧ w = w' := by
  have hI : (s.size : Int) ≤ 1073741824 := by omega
  by_cases h1 : j < i
  · have HP := hid (show pCutS s i j = (⟨#[]⟩, 0) by unfold pCutS; rw [if_pos h1])
    go_enter Try.func43, Try.ntmps43
    go_wp2
    go_ret2
    exact ⟨by rw [HP.out]; rfl, rfl⟩
  · by_cases h2 : i < 1
    · have HP := hid (show pCutS s i j = (⟨#[]⟩, 10) by unfold pCutS; rw [if_neg h1, if_pos (.inl h2)])
      go_enter Try.func43, Try.ntmps43
      go_wp2
      go_ret2
      exact ⟨by rw [HP.out]; rfl, rfl⟩
    · by_cases h3 : (s.size : Int) < j
      · have HP := hid (show pCutS s i j = (⟨#[]⟩, 10) by unfold pCutS; rw [if_neg h1, if_pos (.inr h3)])
        go_enter Try.func43, Try.ntmps43
        go_wp2
        go_ret2
        exact ⟨by rw [HP.out]; rfl, rfl⟩
      · have HP := hid (show pCutS s i j = (s.extract (i.toNat - 1) j.toNat, 0) by unfold pCutS; rw [if_neg h1, if_neg (by omega)])
        have h4 : i - 1 ≤ j := by omega
        have h5 : ¬ i - 1 < 0 := by omega
        go_enter Try.func43, Try.ntmps43
        go_wp2
        go_ret2
        exact ⟨by rw [HP.out]; rfl, rfl⟩
theorem rstrCut_any (s : ByteArray) (i j : Int) (w : World) (hs : s.size ≤ 1073741824) : Calls Try.prog 44 #[.string s, .int .i64 i, .int .i64 j] w fun e w' => e = .returned (.tuple #[.string (pCutS s i j).1, .int .i64 (pCutS s i j).2]) ∧ w = w' := by
  have hI : (s.size : Int) ≤ 1073741824 := by omega
  have hwi := within_any s.size i j w hs
  unfold pWithin at hwi
  by_cases h1 : j < i
  · have HP := hid (show pCutS s i j = (⟨#[]⟩, 0) by unfold pCutS; rw [if_pos h1])
    rw [if_pos h1] at hwi
    have HWI := hid hwi
    clear hwi
    go_enter Try.func44, Try.ntmps44
    go_wp2_with fail
    refine HWI.out.mono ?_
    rintro e w2 ⟨rfl, rfl⟩
    go_wp2_with fail
    go_ret2
    exact ⟨by rw [HP.out]; rfl, rfl⟩
  · by_cases h2 : i < 1 ∨ (s.size : Int) < j
    · have HP := hid (show pCutS s i j = (⟨#[]⟩, 10) by unfold pCutS; rw [if_neg h1, if_pos h2])
      rw [if_neg h1, if_pos h2] at hwi
      have HWI := hid hwi
      clear hwi h2
      go_enter Try.func44, Try.ntmps44
      go_wp2_with fail
      refine HWI.out.mono ?_
      rintro e w2 ⟨rfl, rfl⟩
      go_wp2_with fail
      go_ret2
      exact ⟨by rw [HP.out]; rfl, rfl⟩
    · have HP := hid (show pCutS s i j = (s.extract (i.toNat - 1) j.toNat, 0) by unfold pCutS; rw [if_neg h1, if_neg h2])
      rw [if_neg h1, if_neg h2] at hwi
      have HWI := hid hwi
      have h4 : i - 1 ≤ j := by omega
      have h5 : ¬ i - 1 < 0 := by omega
      have h6 : j ≤ (s.size : Int) := by omega
      have h7 : 1 ≤ i := by omega
      clear hwi h2
      go_enter Try.func44, Try.ntmps44
      go_wp2_with fail
      refine HWI.out.mono ?_
      rintro e w2 ⟨rfl, rfl⟩
      go_wp2_with fail
      go_ret2
      exact ⟨by rw [HP.out]; rfl, rfl⟩
/-- Three boxes and an empty row. -/
theorem boxes3 (x y z : V) (a1 a2 a3 : Option Addr) (c1 c2 c3 : Nat) (w : World) : Fr (fun _ => False) w ((((w.alloc (.cells #[.int .i64 x.k, .int .i64 x.n, .string x.s, .slice a1 x.l.length c1] 24)).alloc (.cells #[.int .i64 y.k, .int .i64 y.n, .string y.s, .slice a2 y.l.length c2] 24)).alloc (.cells #[.int .i64 z.k, .int .i64 z.n, .string z.s, .slice a3 z.l.length c3] 24)).alloc (.cells #[.int .i64 0, .int .i64 0, .string ⟨#[]⟩, .slice none 0 0] 24)) ∧ ((((w.alloc (.cells #[.int .i64 x.k, .int .i64 x.n, .string x.s, .slice a1 x.l.length c1] 24)).alloc (.cells #[.int .i64 y.k, .int .i64 y.n, .string y.s, .slice a2 y.l.length c2] 24)).alloc (.cells #[.int .i64 z.k, .int .i64 z.n, .string z.s, .slice a3 z.l.length c3] 24)).alloc (.cells #[.int .i64 0, .int .i64 0, .string ⟨#[]⟩, .slice none 0 0] 24)).heap[w.heap.size]? = some (.cells #[.int .i64 x.k, .int .i64 x.n, .string x.s, .slice a1 x.l.length c1] 24) ∧
    ((((w.alloc (.cells #[.int .i64 x.k, .int .i64 x.n, .string x.s, .slice a1 x.l.length c1] 24)).alloc (.cells #[.int .i64 y.k, .int .i64 y.n, .string y.s, .slice a2 y.l.length c2] 24)).alloc (.cells #[.int .i64 z.k, .int .i64 z.n, .string z.s, .slice a3 z.l.length c3] 24)).alloc (.cells #[.int .i64 0, .int .i64 0, .string ⟨#[]⟩, .slice none 0 0] 24)).heap[w.heap.size + 1]? = some (.cells #[.int .i64 y.k, .int .i64 y.n, .string y.s, .slice a2 y.l.length c2] 24) ∧ ((((w.alloc (.cells #[.int .i64 x.k, .int .i64 x.n, .string x.s, .slice a1 x.l.length c1] 24)).alloc (.cells #[.int .i64 y.k, .int .i64 y.n, .string y.s, .slice a2 y.l.length c2] 24)).alloc (.cells #[.int .i64 z.k, .int .i64 z.n, .string z.s, .slice a3 z.l.length c3] 24)).alloc (.cells #[.int .i64 0, .int .i64 0, .string ⟨#[]⟩, .slice none 0 0] 24)).heap[w.heap.size + 1 + 1]? = some (.cells #[.int .i64 z.k, .int .i64 z.n, .string z.s, .slice a3 z.l.length c3] 24) ∧ ((((w.alloc (.cells #[.int .i64 x.k, .int .i64 x.n, .string x.s, .slice a1 x.l.length c1] 24)).alloc (.cells #[.int .i64 y.k, .int .i64 y.n, .string y.s, .slice a2 y.l.length c2] 24)).alloc (.cells #[.int .i64 z.k, .int .i64 z.n, .string z.s, .slice a3 z.l.length c3] 24)).alloc (.cells #[.int .i64 0, .int .i64 0, .string ⟨#[]⟩, .slice none 0 0] 24)).heap[w.heap.size + 1 + 1 + 1]? = some (.cells #[.int .i64 0, .int .i64 0, .string ⟨#[]⟩, .slice none 0 0] 24) := by
  have f2 := (Fr.refl (fun _ => False) (w.alloc (.cells #[.int .i64 x.k, .int .i64 x.n, .string x.s, .slice a1 x.l.length c1] 24))).alloc (.cells #[.int .i64 y.k, .int .i64 y.n, .string y.s, .slice a2 y.l.length c2] 24)
  have f3 := (Fr.refl (fun _ => False) ((w.alloc (.cells #[.int .i64 x.k, .int .i64 x.n, .string x.s, .slice a1 x.l.length c1] 24)).alloc (.cells #[.int .i64 y.k, .int .i64 y.n, .string y.s, .slice a2 y.l.length c2] 24))).alloc (.cells #[.int .i64 z.k, .int .i64 z.n, .string z.s, .slice a3 z.l.length c3] 24)
  have f4 := (Fr.refl (fun _ => False) (((w.alloc (.cells #[.int .i64 x.k, .int .i64 x.n, .string x.s, .slice a1 x.l.length c1] 24)).alloc (.cells #[.int .i64 y.k, .int .i64 y.n, .string y.s, .slice a2 y.l.length c2] 24)).alloc (.cells #[.int .i64 z.k, .int .i64 z.n, .string z.s, .slice a3 z.l.length c3] 24))).alloc (.cells #[.int .i64 0, .int .i64 0, .string ⟨#[]⟩, .slice none 0 0] 24)
  have h1 := heap_alloc_new w (.cells #[.int .i64 x.k, .int .i64 x.n, .string x.s, .slice a1 x.l.length c1] 24)
  have h2 := heap_alloc_new (w.alloc (.cells #[.int .i64 x.k, .int .i64 x.n, .string x.s, .slice a1 x.l.length c1] 24)) (.cells #[.int .i64 y.k, .int .i64 y.n, .string y.s, .slice a2 y.l.length c2] 24)
  have h3 := heap_alloc_new ((w.alloc (.cells #[.int .i64 x.k, .int .i64 x.n, .string x.s, .slice a1 x.l.length c1] 24)).alloc (.cells #[.int .i64 y.k, .int .i64 y.n, .string y.s, .slice a2 y.l.length c2] 24)) (.cells #[.int .i64 z.k, .int .i64 z.n, .string z.s, .slice a3 z.l.length c3] 24)
  have h4 := heap_alloc_new (((w.alloc (.cells #[.int .i64 x.k, .int .i64 x.n, .string x.s, .slice a1 x.l.length c1] 24)).alloc (.cells #[.int .i64 y.k, .int .i64 y.n, .string y.s, .slice a2 y.l.length c2] 24)).alloc (.cells #[.int .i64 z.k, .int .i64 z.n, .string z.s, .slice a3 z.l.length c3] 24)) (.cells #[.int .i64 0, .int .i64 0, .string ⟨#[]⟩, .slice none 0 0] 24)
  have s1 : (w.alloc (.cells #[.int .i64 x.k, .int .i64 x.n, .string x.s, .slice a1 x.l.length c1] 24)).heap.size = w.heap.size + 1 := by simp
  have s2 : ((w.alloc (.cells #[.int .i64 x.k, .int .i64 x.n, .string x.s, .slice a1 x.l.length c1] 24)).alloc (.cells #[.int .i64 y.k, .int .i64 y.n, .string y.s, .slice a2 y.l.length c2] 24)).heap.size = w.heap.size + 1 + 1 := by simp
  have s3 : (((w.alloc (.cells #[.int .i64 x.k, .int .i64 x.n, .string x.s, .slice a1 x.l.length c1] 24)).alloc (.cells #[.int .i64 y.k, .int .i64 y.n, .string y.s, .slice a2 y.l.length c2] 24)).alloc (.cells #[.int .i64 z.k, .int .i64 z.n, .string z.s, .slice a3 z.l.length c3] 24)).heap.size = w.heap.size + 1 + 1 + 1 := by simp
  rw [s1] at h2
  rw [s2] at h3
  rw [s3] at h4
  exact ⟨((((Fr.refl _ _).alloc _).alloc _).alloc _).alloc _, ((f2.trans' f3).trans' f4).heap h1 not_false, (f3.trans' f4).heap h2 not_false, f4.heap h3 not_false, h4⟩
def nSlice (a i j : V) : V × Int := if i.k ≠ 0 ∨ j.k ≠ 0 ∨ isRows a = false then (V0, 1) else if a.k = 4 then pList (pCut a.l i.n j.n).1 (pCut a.l i.n j.n).2 else if (pCutS a.s i.n j.n).2 = 0 then (VS (pCutS a.s i.n j.n).1, 0) else (V0, (pCutS a.s i.n j.n).2)
def nPut (a i v : V) : V × Int := if i.k ≠ 0 ∨ isRows a = false then (V0, 1) else if a.k = 4 then pList (pPut a.l i.n v).1 (pPut a.l i.n v).2 else if v.k ≠ 2 ∨ v.s.size ≠ 1 then (V0, 13) else if i.n < 1 ∨ (a.s.size : Int) < i.n then (V0, 10) else
  (VS (a.s.extract 0 (i.n.toNat - 1) ++ v.s ++ a.s.extract i.n.toNat a.s.size), 0)

set_option maxRecDepth 100000 in
set_option maxHeartbeats 6400000 in
theorem nslice_any (x y z : V) (u u' u'' : Array Value) (w : World) (h : VIn T w x u) (h' : VIn T w y u') (h'' : VIn T w z u'') (hxs : x.size ≤ 1073741824) (hzs : z.size ≤ 1073741824) : Calls Try.prog 23 #[.agg u, .agg u', .agg u''] w (GD (fun b => w.heap.size ≤ b) w (nSlice x y z).1 (nSlice x y z).2) := by
  have hsz := V.size_eq x
  have hsz' := V.size_eq z
  obtain ⟨v1, rfl, hl1⟩ := h.open
  obtain ⟨a1, c1, us1, rfl, -⟩ := id hl1
  obtain ⟨v2, rfl, a2, c2, us2, rfl, -⟩ := h'.open
  obtain ⟨v3, rfl, a3, c3, us3, rfl, -⟩ := h''.open
  obtain ⟨hf, hb0, hb1, hb2, hz⟩ := boxes3 x y z a1 a2 a3 c1 c2 c3 w
  have HX := hid h; have HZV := hid h''; have HL := hid hl1; have HXS := hid hxs; have HZS := hid hzs
  have HF0 := hid hf; have HA0 := hid hb0; have HA1 := hid hb1; have HA2 := hid hb2; have HZ0 := hid hz
  unfold GD
  clear h h' h'' hl1 hf hb0 hb1 hb2 hz
  by_cases hi : y.k = 0
  rotate_left
  · have HP := hid (show nSlice x y z = (V0, 1) by unfold nSlice; rw [if_pos (.inl hi)])
    have q1 : (y.k != 0) = true := by simpa using hi
    clear hi
    go_enter Try.func23, Try.ntmps23
    go_wp2_with fail
    refine (raised_any 1 _).mono ?_
    rintro e w2 ⟨rfl, hf2⟩
    have HF := hid (HF0.out.trans' hf2); have HZ := hid (hf2.heap HZ0.out not_false)
    clear hf2
    obtain ⟨hR, hf5, z0, z1, z2, z3, zf⟩ := set4 HZ.out (.int .i64 0) (.int .i64 0) (.string ⟨#[]⟩) (.slice none 0 0)
    have HRR := hid hR
    have HF5 := hid (HF.out.trans hf5 (U := fun _ => False) (fun _ _ h => h) (fun q hq e => by omega))
    clear hR hf5
    go_wp2_with fail
    refine bodyPost_ret (results_ct rfl _ _ (w.heap.size + 1 + 1 + 1) _ _ _ _ rfl HRR.out Try.underlying24 rfl (by kernel_rfl)) rfl ?_
    exact ⟨_, by rw [HP.out]; rfl, HF5.out, by rw [HP.out]; exact V0.inn _ _⟩
  have q1 : (y.k != 0) = false := by simpa using hi
  by_cases hj : z.k = 0
  rotate_left
  · have HP := hid (show nSlice x y z = (V0, 1) by unfold nSlice; rw [if_pos (.inr (.inl hj))])
    have q3 : (z.k != 0) = true := by simpa using hj
    clear hi hj
    go_enter Try.func23, Try.ntmps23
    go_wp2_with fail
    refine (raised_any 1 _).mono ?_
    rintro e w2 ⟨rfl, hf2⟩
    have HF := hid (HF0.out.trans' hf2); have HZ := hid (hf2.heap HZ0.out not_false)
    clear hf2
    obtain ⟨hR, hf5, z0, z1, z2, z3, zf⟩ := set4 HZ.out (.int .i64 0) (.int .i64 0) (.string ⟨#[]⟩) (.slice none 0 0)
    have HRR := hid hR
    have HF5 := hid (HF.out.trans hf5 (U := fun _ => False) (fun _ _ h => h) (fun q hq e => by omega))
    clear hR hf5
    go_wp2_with fail
    refine bodyPost_ret (results_ct rfl _ _ (w.heap.size + 1 + 1 + 1) _ _ _ _ rfl HRR.out Try.underlying24 rfl (by kernel_rfl)) rfl ?_
    exact ⟨_, by rw [HP.out]; rfl, HF5.out, by rw [HP.out]; exact V0.inn _ _⟩
  have q3 : (z.k != 0) = false := by simpa using hj
  have HC := hid (rows_any x _ _ (HX.out.fr HF0.out))
  by_cases hr : isRows x = false
  · have HP := hid (show nSlice x y z = (V0, 1) by unfold nSlice; rw [if_pos (.inr (.inr hr))])
    rw [hr] at HC
    clear hr hi hj
    go_enter Try.func23, Try.ntmps23
    go_wp2_with fail
    refine HC.out.mono ?_
    rintro e w1 ⟨rfl, hf1⟩
    have HF1 := hid (HF0.out.trans' hf1); have HZ1 := hid (hf1.heap HZ0.out not_false)
    clear hf1
    go_wp2_with fail
    refine (raised_any 1 _).mono ?_
    rintro e w2 ⟨rfl, hf2⟩
    have HF := hid (HF1.out.trans' hf2); have HZ := hid (hf2.heap HZ1.out not_false)
    clear hf2
    obtain ⟨hR, hf5, z0, z1, z2, z3, zf⟩ := set4 HZ.out (.int .i64 0) (.int .i64 0) (.string ⟨#[]⟩) (.slice none 0 0)
    have HRR := hid hR
    have HF5 := hid (HF.out.trans hf5 (U := fun _ => False) (fun _ _ h => h) (fun q hq e => by omega))
    clear hR hf5
    go_wp2_with fail
    refine bodyPost_ret (results_ct rfl _ _ (w.heap.size + 1 + 1 + 1) _ _ _ _ rfl HRR.out Try.underlying24 rfl (by kernel_rfl)) rfl ?_
    exact ⟨_, by rw [HP.out]; rfl, HF5.out, by rw [HP.out]; exact V0.inn _ _⟩
  have hpi : nSlice x y z = if x.k = 4 then pList (pCut x.l y.n z.n).1 (pCut x.l y.n z.n).2 else if (pCutS x.s y.n z.n).2 = 0 then (VS (pCutS x.s y.n z.n).1, 0) else (V0, (pCutS x.s y.n z.n).2) := by
    unfold nSlice
    rw [if_neg (by intro e; rcases e with e | e | e; exact e hi; exact e hj; exact hr e)]
  rw [show isRows x = true by simpa using hr] at HC
  clear hi hr hj
  by_cases hk : x.k = 4
  · rw [if_pos hk] at hpi
    have q2 : (x.k == 4) = true := by simpa using hk
    obtain ⟨pl, pc, hg⟩ : ∃ a b, pCut x.l y.n z.n = (a, b) := ⟨_, _, rfl⟩
    rw [hg] at hpi
    have HP := hid hpi
    have hget : ∀ w1, Fr (fun _ => False) w w1 → Calls Try.prog 42 #[.slice a1 x.l.length c1, .int .i64 y.n, .int .i64 z.n] w1 (fun e w' => ∃ v', e = .returned (.tuple #[v', .int .i64 pc]) ∧ Fr (fun _ => False) w1 w' ∧ VL (fun b => w1.heap.size ≤ b) w' pl v') := fun w1 hf => by
      have := cut_new x.l _ y.n z.n w1 (HL.out.fr hf) (by have := HXS.out; omega)
      rw [hg] at this
      exact this
    have HG := hid hget
    clear hk hpi hget hg
    go_enter Try.func23, Try.ntmps23
    go_wp2_with fail
    refine HC.out.mono ?_
    rintro e w1 ⟨rfl, hf1⟩
    have HF1 := hid (HF0.out.trans' hf1); have HZ1 := hid (hf1.heap HZ0.out not_false); have HB0 := hid (hf1.heap HA0.out not_false); have HB1 := hid (hf1.heap HA1.out not_false); have HB2 := hid (hf1.heap HA2.out not_false)
    clear hf1
    have aq0 : w1.cell? ⟨w.heap.size, 0, none⟩ = some (.int .i64 x.k) := by rw [cell_of_row _ _ 0 _ _ _ HB0.out]; rfl
    have aq1 : w1.cell? ⟨w.heap.size, 1, none⟩ = some (.int .i64 x.n) := by rw [cell_of_row _ _ 1 _ _ _ HB0.out]; rfl
    have aq2 : w1.cell? ⟨w.heap.size, 2, none⟩ = some (.string x.s) := by rw [cell_of_row _ _ 2 _ _ _ HB0.out]; rfl
    have aq3 : w1.cell? ⟨w.heap.size, 3, none⟩ = some (.slice a1 x.l.length c1) := by rw [cell_of_row _ _ 3 _ _ _ HB0.out]; rfl
    have bq0 : w1.cell? ⟨w.heap.size + 1, 0, none⟩ = some (.int .i64 y.k) := by rw [cell_of_row _ _ 0 _ _ _ HB1.out]; rfl
    have bq1 : w1.cell? ⟨w.heap.size + 1, 1, none⟩ = some (.int .i64 y.n) := by rw [cell_of_row _ _ 1 _ _ _ HB1.out]; rfl
    have bq2 : w1.cell? ⟨w.heap.size + 1, 2, none⟩ = some (.string y.s) := by rw [cell_of_row _ _ 2 _ _ _ HB1.out]; rfl
    have bq3 : w1.cell? ⟨w.heap.size + 1, 3, none⟩ = some (.slice a2 y.l.length c2) := by rw [cell_of_row _ _ 3 _ _ _ HB1.out]; rfl
    have cq0 : w1.cell? ⟨w.heap.size + 1 + 1, 0, none⟩ = some (.int .i64 z.k) := by rw [cell_of_row _ _ 0 _ _ _ HB2.out]; rfl
    have cq1 : w1.cell? ⟨w.heap.size + 1 + 1, 1, none⟩ = some (.int .i64 z.n) := by rw [cell_of_row _ _ 1 _ _ _ HB2.out]; rfl
    have cq2 : w1.cell? ⟨w.heap.size + 1 + 1, 2, none⟩ = some (.string z.s) := by rw [cell_of_row _ _ 2 _ _ _ HB2.out]; rfl
    have cq3 : w1.cell? ⟨w.heap.size + 1 + 1, 3, none⟩ = some (.slice a3 z.l.length c3) := by rw [cell_of_row _ _ 3 _ _ _ HB2.out]; rfl
    go_wp2_with fail
    refine (HG.out _ HF1.out).mono ?_
    rintro e w3 ⟨v4, rfl, hf3, hv4⟩
    obtain ⟨a4, c4, us4, rfl, -⟩ := id hv4
    have HF3 := hid (HF1.out.trans' hf3); have HZ3 := hid (hf3.heap HZ1.out not_false); have HV4 := hid hv4
    have HW2 := hid (heap_lt HZ1.out)
    clear hf3 hv4
    clear aq0 aq1 aq2 aq3 bq0 bq1 bq2 bq3 cq0 cq1 cq2 cq3
    go_wp2_with fail
    refine (list_any _ pl _ pc _ HV4.out).mono ?_
    rintro e w2 ⟨u2, rfl, hf2, hx2⟩
    obtain ⟨v5, rfl, a5, c5, us5, rfl, -⟩ := hx2.open
    have HF := hid (HF3.out.trans' hf2); have HZ := hid (hf2.heap HZ3.out not_false)
    have HX2 := hid hx2
    clear hf2 hx2
    obtain ⟨hR, hf5, z0, z1, z2, z3, zf⟩ := set4 HZ.out (.int .i64 (pList pl pc).1.k) (.int .i64 (pList pl pc).1.n) (.string (pList pl pc).1.s) (.slice a5 (pList pl pc).1.l.length c5)
    have HRR := hid hR
    have HF5 := hid (HF.out.trans hf5 (U := fun _ => False) (fun _ _ h => h) (fun q hq e => by omega))
    have HV5 := hid ((HX2.out.frame hf5 fun q hq e => by have := HW2.out; omega).mono (E := fun b => w.heap.size ≤ b) fun q _ hq => Nat.le_trans HF1.out.size hq)
    clear hR hf5
    go_wp2_with fail
    refine bodyPost_ret (results_ct rfl _ _ (w.heap.size + 1 + 1 + 1) _ _ _ _ rfl HRR.out Try.underlying24 rfl (by kernel_rfl)) rfl ?_
    exact ⟨_, by rw [HP.out]; rfl, HF5.out, by rw [HP.out]; exact HV5.out⟩
  rw [if_neg hk] at hpi
  have q2 : (x.k == 4) = false := by simpa using hk
  have hss : (x.s.size : Int) ≤ 1073741824 := by omega
  have hsz2 : (z.s.size : Int) ≤ 1073741824 := by omega
  obtain ⟨cs, cc, hg⟩ : ∃ a b, pCutS x.s y.n z.n = (a, b) := ⟨_, _, rfl⟩
  have hcut : ∀ w1, Calls Try.prog 43 #[.string x.s, .int .i64 y.n, .int .i64 z.n] w1 (fun e w' => e = .returned (.tuple #[.string cs, .int .i64 cc]) ∧ w1 = w') := fun w1 => by
    have := strCut_any x.s y.n z.n w1 (by omega)
    rw [hg] at this
    exact this
  rw [hg] at hpi
  have HG := hid hcut
  clear hcut hg hk
  by_cases hc : cc = 0
  · rw [if_pos hc] at hpi
    have q4 : (cc != 0) = false := by simpa using hc
    have HP := hid hpi
    clear hpi hc
    go_enter Try.func23, Try.ntmps23
    go_wp2_with fail
    refine HC.out.mono ?_
    rintro e w1 ⟨rfl, hf1⟩
    have HF1 := hid (HF0.out.trans' hf1); have HZ1 := hid (hf1.heap HZ0.out not_false); have HB0 := hid (hf1.heap HA0.out not_false); have HB1 := hid (hf1.heap HA1.out not_false); have HB2 := hid (hf1.heap HA2.out not_false)
    clear hf1
    have aq0 : w1.cell? ⟨w.heap.size, 0, none⟩ = some (.int .i64 x.k) := by rw [cell_of_row _ _ 0 _ _ _ HB0.out]; rfl
    have aq1 : w1.cell? ⟨w.heap.size, 1, none⟩ = some (.int .i64 x.n) := by rw [cell_of_row _ _ 1 _ _ _ HB0.out]; rfl
    have aq2 : w1.cell? ⟨w.heap.size, 2, none⟩ = some (.string x.s) := by rw [cell_of_row _ _ 2 _ _ _ HB0.out]; rfl
    have aq3 : w1.cell? ⟨w.heap.size, 3, none⟩ = some (.slice a1 x.l.length c1) := by rw [cell_of_row _ _ 3 _ _ _ HB0.out]; rfl
    have bq0 : w1.cell? ⟨w.heap.size + 1, 0, none⟩ = some (.int .i64 y.k) := by rw [cell_of_row _ _ 0 _ _ _ HB1.out]; rfl
    have bq1 : w1.cell? ⟨w.heap.size + 1, 1, none⟩ = some (.int .i64 y.n) := by rw [cell_of_row _ _ 1 _ _ _ HB1.out]; rfl
    have bq2 : w1.cell? ⟨w.heap.size + 1, 2, none⟩ = some (.string y.s) := by rw [cell_of_row _ _ 2 _ _ _ HB1.out]; rfl
    have bq3 : w1.cell? ⟨w.heap.size + 1, 3, none⟩ = some (.slice a2 y.l.length c2) := by rw [cell_of_row _ _ 3 _ _ _ HB1.out]; rfl
    have cq0 : w1.cell? ⟨w.heap.size + 1 + 1, 0, none⟩ = some (.int .i64 z.k) := by rw [cell_of_row _ _ 0 _ _ _ HB2.out]; rfl
    have cq1 : w1.cell? ⟨w.heap.size + 1 + 1, 1, none⟩ = some (.int .i64 z.n) := by rw [cell_of_row _ _ 1 _ _ _ HB2.out]; rfl
    have cq2 : w1.cell? ⟨w.heap.size + 1 + 1, 2, none⟩ = some (.string z.s) := by rw [cell_of_row _ _ 2 _ _ _ HB2.out]; rfl
    have cq3 : w1.cell? ⟨w.heap.size + 1 + 1, 3, none⟩ = some (.slice a3 z.l.length c3) := by rw [cell_of_row _ _ 3 _ _ _ HB2.out]; rfl
    go_wp2_with fail
    refine (HG.out _).mono ?_
    rintro e w3 ⟨rfl, rfl⟩
    clear aq0 aq1 aq2 aq3 bq0 bq1 bq2 bq3 cq0 cq1 cq2 cq3
    go_wp2_with fail
    refine (vS_any cs _).mono ?_
    rintro e w2 ⟨rfl, hf2⟩
    have HF := hid (HF1.out.trans' hf2); have HZ := hid (hf2.heap HZ1.out not_false)
    clear hf2
    obtain ⟨hR, hf5, z0, z1, z2, z3, zf⟩ := set4 HZ.out (.int .i64 2) (.int .i64 0) (.string cs) (.slice none 0 0)
    have HRR := hid hR
    have HF5 := hid (HF.out.trans hf5 (U := fun _ => False) (fun _ _ h => h) (fun q hq e => by omega))
    clear hR hf5
    go_wp2_with fail
    refine bodyPost_ret (results_ct rfl _ _ (w.heap.size + 1 + 1 + 1) _ _ _ _ rfl HRR.out Try.underlying24 rfl (by kernel_rfl)) rfl ?_
    exact ⟨_, by rw [HP.out]; rfl, HF5.out, by rw [HP.out]; exact VS.inn _ _ _⟩
  · rw [if_neg hc] at hpi
    have q4 : (cc != 0) = true := by simpa using hc
    have HP := hid hpi
    clear hpi hc
    go_enter Try.func23, Try.ntmps23
    go_wp2_with fail
    refine HC.out.mono ?_
    rintro e w1 ⟨rfl, hf1⟩
    have HF1 := hid (HF0.out.trans' hf1); have HZ1 := hid (hf1.heap HZ0.out not_false); have HB0 := hid (hf1.heap HA0.out not_false); have HB1 := hid (hf1.heap HA1.out not_false); have HB2 := hid (hf1.heap HA2.out not_false)
    clear hf1
    have aq0 : w1.cell? ⟨w.heap.size, 0, none⟩ = some (.int .i64 x.k) := by rw [cell_of_row _ _ 0 _ _ _ HB0.out]; rfl
    have aq1 : w1.cell? ⟨w.heap.size, 1, none⟩ = some (.int .i64 x.n) := by rw [cell_of_row _ _ 1 _ _ _ HB0.out]; rfl
    have aq2 : w1.cell? ⟨w.heap.size, 2, none⟩ = some (.string x.s) := by rw [cell_of_row _ _ 2 _ _ _ HB0.out]; rfl
    have aq3 : w1.cell? ⟨w.heap.size, 3, none⟩ = some (.slice a1 x.l.length c1) := by rw [cell_of_row _ _ 3 _ _ _ HB0.out]; rfl
    have bq0 : w1.cell? ⟨w.heap.size + 1, 0, none⟩ = some (.int .i64 y.k) := by rw [cell_of_row _ _ 0 _ _ _ HB1.out]; rfl
    have bq1 : w1.cell? ⟨w.heap.size + 1, 1, none⟩ = some (.int .i64 y.n) := by rw [cell_of_row _ _ 1 _ _ _ HB1.out]; rfl
    have bq2 : w1.cell? ⟨w.heap.size + 1, 2, none⟩ = some (.string y.s) := by rw [cell_of_row _ _ 2 _ _ _ HB1.out]; rfl
    have bq3 : w1.cell? ⟨w.heap.size + 1, 3, none⟩ = some (.slice a2 y.l.length c2) := by rw [cell_of_row _ _ 3 _ _ _ HB1.out]; rfl
    have cq0 : w1.cell? ⟨w.heap.size + 1 + 1, 0, none⟩ = some (.int .i64 z.k) := by rw [cell_of_row _ _ 0 _ _ _ HB2.out]; rfl
    have cq1 : w1.cell? ⟨w.heap.size + 1 + 1, 1, none⟩ = some (.int .i64 z.n) := by rw [cell_of_row _ _ 1 _ _ _ HB2.out]; rfl
    have cq2 : w1.cell? ⟨w.heap.size + 1 + 1, 2, none⟩ = some (.string z.s) := by rw [cell_of_row _ _ 2 _ _ _ HB2.out]; rfl
    have cq3 : w1.cell? ⟨w.heap.size + 1 + 1, 3, none⟩ = some (.slice a3 z.l.length c3) := by rw [cell_of_row _ _ 3 _ _ _ HB2.out]; rfl
    go_wp2_with fail
    refine (HG.out _).mono ?_
    rintro e w3 ⟨rfl, rfl⟩
    clear aq0 aq1 aq2 aq3 bq0 bq1 bq2 bq3 cq0 cq1 cq2 cq3
    go_wp2_with fail
    refine (raised_any cc _).mono ?_
    rintro e w2 ⟨rfl, hf2⟩
    have HF := hid (HF1.out.trans' hf2); have HZ := hid (hf2.heap HZ1.out not_false)
    clear hf2
    obtain ⟨hR, hf5, z0, z1, z2, z3, zf⟩ := set4 HZ.out (.int .i64 0) (.int .i64 0) (.string ⟨#[]⟩) (.slice none 0 0)
    have HRR := hid hR
    have HF5 := hid (HF.out.trans hf5 (U := fun _ => False) (fun _ _ h => h) (fun q hq e => by omega))
    clear hR hf5
    go_wp2_with fail
    refine bodyPost_ret (results_ct rfl _ _ (w.heap.size + 1 + 1 + 1) _ _ _ _ rfl HRR.out Try.underlying24 rfl (by kernel_rfl)) rfl ?_
    exact ⟨_, by rw [HP.out]; rfl, HF5.out, by rw [HP.out]; exact V0.inn _ _⟩
end Go.Proofs.Ytjngddmjgcecnaa
