/- The document's IndexOf, SliceOf. -/
import Derived.Test.YtjngddmjgcecnaaNumF
import Derived.Test.YtjngddmjgcecnaaRefL
namespace Go.Proofs.Ytjngddmjgcecnaa
open Go.RowKit

theorem rS_any (s : ByteArray) (w : World) : Calls Try.prog 41 #[.string s] w fun e w' => e = .returned (.agg #[.int .i64 2, .int .i64 0, .string s, .slice none 0 0]) ∧ Fr (fun _ => False) w w' := by
  go_enter Try.func41, Try.ntmps41
  go_wp2
  have hR : (w.alloc (.cells #[.int .i64 2, .int .i64 0, .string s, .slice none 0 0] 24)).heap[w.heap.size]? = some (.cells #[.int .i64 2, .int .i64 0, .string s, .slice none 0 0] 24) := heap_alloc_new w _
  refine bodyPost_ret (results_cell_row rfl _ _ w.heap.size _ _ _ _ rfl hR Try.underlying24 rfl (by kernel_rfl)) rfl ?_
  exact ⟨rfl, (Fr.refl _ _).alloc _⟩
theorem rows_false {x : V} (h : isRows x = false) : (x.k != 2) = true ∧ (x.k != 4) = true := by
  unfold isRows at h
  simp at h
  simp
  exact h
theorem rows_true {x : V} (h : ¬ isRows x = false) (h4 : x.k ≠ 4) : (x.k != 2) = false ∧ (x.k == 2) = true ∧ (x.k == 4) = false ∧ (x.k != 4) = true := by
  unfold isRows at h
  simp at h
  simp
  omega

set_option maxRecDepth 100000 in
set_option maxHeartbeats 3200000 in
theorem rindex_any (x y : V) (u u' : Array Value) (w : World) (h : VIn T w x u) (h' : VIn T w y u') (hxs : x.size ≤ 1073741824) : Calls Try.prog 22 #[.agg u, .agg u'] w (GP w (pIdx x y).1 (pIdx x y).2) := by
  have hsz := V.size_eq x
  obtain ⟨v1, rfl, hl1⟩ := h.open
  obtain ⟨a1, c1, us1, rfl, -⟩ := id hl1
  obtain ⟨v2, rfl, a2, c2, us2, rfl, -⟩ := h'.open
  obtain ⟨hf, hb0, hb1, hz⟩ := boxes2 x y a1 a2 c1 c2 w
  have HX := hid h; have HL := hid (hl1.lt); have HXS := hid hxs
  have HF0 := hid hf; have HZ0 := hid hz
  unfold GP
  clear h h' hl1 hf hb0 hb1 hz
  by_cases hi : y.k = 0
  rotate_left
  · have HP := hid (show pIdx x y = (V0, 1) by unfold pIdx; rw [if_pos (.inl hi)])
    have q1 : (y.k != 0) = true := by simpa using hi
    clear hi
    go_enter Try.func22, Try.ntmps22
    obtain ⟨-, -, z0, z1, z2, z3, zf⟩ := set4 HZ0.out (.int .i64 0) (.int .i64 0) (.string ⟨#[]⟩) (.slice none 0 0)
    go_wp2_with fail
    refine bodyPost_ret (results_ct rfl _ _ (w.heap.size + 1 + 1) _ _ _ _ rfl HZ0.out Try.underlying24 rfl (by kernel_rfl)) rfl ?_
    exact ⟨_, by rw [HP.out]; rfl, HF0.out, by rw [HP.out]; exact V0.inn _ _⟩
  have q1 : (y.k != 0) = false := by simpa using hi
  by_cases hr : isRows x = false
  · have HP := hid (show pIdx x y = (V0, 1) by unfold pIdx; rw [if_pos (.inr hr)])
    obtain ⟨q2, q3⟩ := rows_false hr
    clear hr hi
    go_enter Try.func22, Try.ntmps22
    obtain ⟨-, -, z0, z1, z2, z3, zf⟩ := set4 HZ0.out (.int .i64 0) (.int .i64 0) (.string ⟨#[]⟩) (.slice none 0 0)
    go_wp2_with fail
    refine bodyPost_ret (results_ct rfl _ _ (w.heap.size + 1 + 1) _ _ _ _ rfl HZ0.out Try.underlying24 rfl (by kernel_rfl)) rfl ?_
    exact ⟨_, by rw [HP.out]; rfl, HF0.out, by rw [HP.out]; exact V0.inn _ _⟩
  have hpi : pIdx x y = if x.k = 4 then pGet x.l y.n else if y.n < 1 ∨ (x.s.size : Int) < y.n then (V0, 10) else (VS (x.s.extract (y.n.toNat - 1) y.n.toNat), 0) := by
    unfold pIdx
    rw [if_neg (by intro e; rcases e with e | e; exact e hi; exact hr e)]
  by_cases hk : x.k = 4
  · rw [if_pos hk] at hpi
    have q2 : (x.k == 4) = true := by simpa using hk
    have q3 : (x.k != 4) = false := by simpa using hk
    have q4 : (x.k != 2) = true := by simp; omega
    obtain ⟨gx, gc, hg⟩ : ∃ a b, pGet x.l y.n = (a, b) := ⟨_, _, rfl⟩
    rw [hg] at hpi
    have HP := hid hpi
    have hget : ∀ w1, Fr (fun _ => False) w w1 → Calls Try.prog 40 #[.slice a1 x.l.length c1, .int .i64 y.n] w1 (fun e w' => ∃ u, e = .returned (.tuple #[.agg u, .int .i64 gc]) ∧ Fr (fun _ => False) w1 w' ∧ VIn (fun b => b < w.heap.size) w' gx u) := fun w1 hf => by
      have := rget_d (fun b => b < w.heap.size) x.l _ y.n w1 (HL.out.frame hf fun _ _ => not_false) (by have := HXS.out; omega)
      rw [hg] at this
      exact this
    have HG := hid hget
    clear hk hpi hget hg hi hr
    go_enter Try.func22, Try.ntmps22
    go_wp2_with fail
    refine (HG.out _ HF0.out).mono ?_
    rintro e w2 ⟨u2, rfl, hf2, hx2⟩
    obtain ⟨v3, rfl, a3, c3, us3, rfl, -⟩ := hx2.open
    have HF := hid (HF0.out.trans' hf2); have HZ := hid (hf2.heap HZ0.out not_false)
    have HX2 := hid hx2
    clear hf2 hx2
    obtain ⟨hR, hf5, z0, z1, z2, z3, zf⟩ := set4 HZ.out (.int .i64 gx.k) (.int .i64 gx.n) (.string gx.s) (.slice a3 gx.l.length c3)
    have HRR := hid hR
    have HF5 := hid (HF.out.trans hf5 (U := fun _ => False) (fun _ _ h => h) (fun q hq e => by omega))
    have HV5 := hid ((HX2.out.frame hf5 fun q hq e => by omega).t)
    clear hR hf5
    go_wp2_with fail
    refine bodyPost_ret (results_ct rfl _ _ (w.heap.size + 1 + 1) _ _ _ _ rfl HRR.out Try.underlying24 rfl (by kernel_rfl)) rfl ?_
    exact ⟨_, by rw [HP.out]; rfl, HF5.out, by rw [HP.out]; exact HV5.out⟩
  rw [if_neg hk] at hpi
  obtain ⟨q3, -, q2, -⟩ := rows_true hr hk
  have hss : (x.s.size : Int) ≤ 1073741824 := by omega
  by_cases hb : y.n < 1 ∨ (x.s.size : Int) < y.n
  · rw [if_pos hb] at hpi
    have HP := hid hpi
    have hb' : y.n < 1 ∨ (1 ≤ y.n ∧ (x.s.size : Int) < y.n) := by omega
    clear hpi hb hk hi hr
    rcases hb' with hb' | ⟨hb1, hb2⟩
    all_goals
      go_enter Try.func22, Try.ntmps22
      obtain ⟨-, -, z0, z1, z2, z3, zf⟩ := set4 HZ0.out (.int .i64 0) (.int .i64 0) (.string ⟨#[]⟩) (.slice none 0 0)
      go_wp2_with fail
      refine bodyPost_ret (results_ct rfl _ _ (w.heap.size + 1 + 1) _ _ _ _ rfl HZ0.out Try.underlying24 rfl (by kernel_rfl)) rfl ?_
      exact ⟨_, by rw [HP.out]; rfl, HF0.out, by rw [HP.out]; exact V0.inn _ _⟩
  · rw [if_neg hb] at hpi
    have HP := hid hpi
    have hb1 : ¬ y.n < 1 := by omega
    have hb2 : ¬ (x.s.size : Int) < y.n := by omega
    clear hpi hb hk hi hr
    go_enter Try.func22, Try.ntmps22
    go_wp2_with fail
    refine (rS_any _ _).mono ?_
    rintro e w2 ⟨rfl, hf2⟩
    have HF := hid (HF0.out.trans' hf2); have HZ := hid (hf2.heap HZ0.out not_false)
    clear hf2
    obtain ⟨hR, hf5, z0, z1, z2, z3, zf⟩ := set4 HZ.out (.int .i64 2) (.int .i64 0) (.string (x.s.extract (y.n.toNat - 1) y.n.toNat)) (.slice none 0 0)
    have HRR := hid hR
    have HF5 := hid (HF.out.trans hf5 (U := fun _ => False) (fun _ _ h => h) (fun q hq e => by omega))
    clear hR hf5
    go_wp2_with fail
    refine bodyPost_ret (results_ct rfl _ _ (w.heap.size + 1 + 1) _ _ _ _ rfl HRR.out Try.underlying24 rfl (by kernel_rfl)) rfl ?_
    exact ⟨_, by rw [HP.out]; rfl, HF5.out, by rw [HP.out]; exact VS.inn T _ _⟩


set_option maxRecDepth 100000 in
set_option maxHeartbeats 6400000 in
theorem rslice_any (x y z : V) (hkx : kindedL x.l) (u u' u'' : Array Value) (w : World) (h : VIn T w x u) (h' : VIn T w y u') (h'' : VIn T w z u'') (hxs : x.size ≤ 1073741824) (hzs : z.size ≤ 1073741824) : Calls Try.prog 24 #[.agg u, .agg u', .agg u''] w (GP w (nSlice x y z).1 (nSlice x y z).2) := by
  have hsz := V.size_eq x
  have hsz' := V.size_eq z
  obtain ⟨v1, rfl, hl1⟩ := h.open
  obtain ⟨a1, c1, us1, rfl, -⟩ := id hl1
  obtain ⟨v2, rfl, a2, c2, us2, rfl, -⟩ := h'.open
  obtain ⟨v3, rfl, a3, c3, us3, rfl, -⟩ := h''.open
  obtain ⟨hf, hb0, hb1, hb2, hz⟩ := boxes3 x y z a1 a2 a3 c1 c2 c3 w
  have HX := hid h; have HZV := hid h''; have HL := hid hl1; have HXS := hid hxs; have HZS := hid hzs; have HKX := hid hkx
  have HF0 := hid hf; have HA0 := hid hb0; have HA1 := hid hb1; have HA2 := hid hb2; have HZ0 := hid hz
  unfold GP
  clear h h' h'' hl1 hf hb0 hb1 hb2 hz hkx
  by_cases hi : y.k = 0
  rotate_left
  · have HP := hid (show nSlice x y z = (V0, 1) by unfold nSlice; rw [if_pos (.inl hi)])
    have q1 : (y.k != 0) = true := by simpa using hi
    clear hi
    go_enter Try.func24, Try.ntmps24
    obtain ⟨-, -, z0, z1, z2, z3, zf⟩ := set4 HZ0.out (.int .i64 0) (.int .i64 0) (.string ⟨#[]⟩) (.slice none 0 0)
    go_wp2_with fail
    refine bodyPost_ret (results_ct rfl _ _ (w.heap.size + 1 + 1 + 1) _ _ _ _ rfl HZ0.out Try.underlying24 rfl (by kernel_rfl)) rfl ?_
    exact ⟨_, by rw [HP.out]; rfl, HF0.out, by rw [HP.out]; exact V0.inn _ _⟩
  have q1 : (y.k != 0) = false := by simpa using hi
  by_cases hj : z.k = 0
  rotate_left
  · have HP := hid (show nSlice x y z = (V0, 1) by unfold nSlice; rw [if_pos (.inr (.inl hj))])
    have q9 : (z.k != 0) = true := by simpa using hj
    clear hi hj
    go_enter Try.func24, Try.ntmps24
    obtain ⟨-, -, z0, z1, z2, z3, zf⟩ := set4 HZ0.out (.int .i64 0) (.int .i64 0) (.string ⟨#[]⟩) (.slice none 0 0)
    go_wp2_with fail
    refine bodyPost_ret (results_ct rfl _ _ (w.heap.size + 1 + 1 + 1) _ _ _ _ rfl HZ0.out Try.underlying24 rfl (by kernel_rfl)) rfl ?_
    exact ⟨_, by rw [HP.out]; rfl, HF0.out, by rw [HP.out]; exact V0.inn _ _⟩
  have q9 : (z.k != 0) = false := by simpa using hj
  by_cases hr : isRows x = false
  · have HP := hid (show nSlice x y z = (V0, 1) by unfold nSlice; rw [if_pos (.inr (.inr hr))])
    obtain ⟨q2, q3⟩ := rows_false hr
    clear hr hi hj
    go_enter Try.func24, Try.ntmps24
    obtain ⟨-, -, z0, z1, z2, z3, zf⟩ := set4 HZ0.out (.int .i64 0) (.int .i64 0) (.string ⟨#[]⟩) (.slice none 0 0)
    go_wp2_with fail
    refine bodyPost_ret (results_ct rfl _ _ (w.heap.size + 1 + 1 + 1) _ _ _ _ rfl HZ0.out Try.underlying24 rfl (by kernel_rfl)) rfl ?_
    exact ⟨_, by rw [HP.out]; rfl, HF0.out, by rw [HP.out]; exact V0.inn _ _⟩
  have hpi : nSlice x y z = if x.k = 4 then pList (pCut x.l y.n z.n).1 (pCut x.l y.n z.n).2 else if (pCutS x.s y.n z.n).2 = 0 then (VS (pCutS x.s y.n z.n).1, 0) else (V0, (pCutS x.s y.n z.n).2) := by
    unfold nSlice
    rw [if_neg (by intro e; rcases e with e | e | e; exact e hi; exact e hj; exact hr e)]
  by_cases hk : x.k = 4
  · rw [if_pos hk] at hpi
    have q2 : (x.k == 4) = true := by simpa using hk
    have q3 : (x.k != 4) = false := by simpa using hk
    have q4 : (x.k != 2) = true := by simp; omega
    have q5 : (x.k == 2) = false := by simp; omega
    obtain ⟨pl, pc, hg⟩ : ∃ a b, pCut x.l y.n z.n = (a, b) := ⟨_, _, rfl⟩
    rw [hg] at hpi
    have HP := hid hpi
    have hplz : sizeL pl ≤ 4294967296 := by
      have h9 := congrArg Prod.fst hg
      simp only at h9
      rw [← h9]
      unfold pCut pMade mlist
      have h1 := sizeL_drop x.l z.n.toNat
      have h2 := sizeL_drop (x.l.take z.n.toNat) (y.n - 1).toNat
      have h3 := HXS.out
      split
      · simp [sizeL]
      · split
        · simp [sizeL]
        · simp only
          split
          · omega
          · simp [sizeL]
    have hget : ∀ w1, Fr (fun _ => False) w w1 → Calls Try.prog 45 #[.slice a1 x.l.length c1, .int .i64 y.n, .int .i64 z.n] w1 (fun e w' => ∃ v', e = .returned (.tuple #[v', .int .i64 pc]) ∧ Fr (fun _ => False) w1 w' ∧ VL T w' pl v') := fun w1 hf => by
      have := rcut_any x.l HKX.out _ y.n z.n w1 (HL.out.fr hf) (by have := HXS.out; omega)
      rw [hg] at this
      exact this
    have HG := hid hget; have HPL := hid hplz
    clear hk hpi hget hg hi hr hj hplz
    by_cases hpc : pc = 0
    · have q6 : (pc != 0) = false := by simpa using hpc
      have HPC := hid hpc
      clear hpc
      go_enter Try.func24, Try.ntmps24
      go_wp2_with fail
      refine (HG.out _ HF0.out).mono ?_
      rintro e w1 ⟨v4, rfl, hf1, hv4⟩
      obtain ⟨a4, c4, us4, rfl, -⟩ := id hv4
      have HF1 := hid (HF0.out.trans' hf1); have HZ1 := hid (hf1.heap HZ0.out not_false); have HV4 := hid hv4
      clear hf1 hv4
      go_wp2_with fail
      refine (rL_any pl (by have := HPL.out; omega) T _ _ HV4.out).mono ?_
      rintro e w2 ⟨u2, rfl, hf2, hx2⟩
      obtain ⟨v5, rfl, hv5⟩ : ∃ v, u2 = #[.int .i64 4, .int .i64 0, .string ⟨#[]⟩, v] ∧ VL _ w2 pl v := hx2.open
      obtain ⟨a5, c5, us5, rfl, -⟩ := hv5
      have HF := hid (HF1.out.trans' hf2); have HZ := hid (hf2.heap HZ1.out not_false)
      have HX2 := hid hx2; have HW := hid (heap_lt HZ1.out)
      have HP2 := HP
      have HP := hid (show nSlice x y z = (.mk 4 0 ⟨#[]⟩ pl, 0) by rw [HP2.out, HPC.out]; rfl)
      have hpc := HPC.out
      subst hpc
      clear hf2 hx2 HPC
      obtain ⟨hR, hf5, z0, z1, z2, z3, zf⟩ := set4 HZ.out (.int .i64 4) (.int .i64 0) (.string ⟨#[]⟩) (.slice a5 pl.length c5)
      have HRR := hid hR
      have HF5 := hid (HF.out.trans hf5 (U := fun _ => False) (fun _ _ h => h) (fun q hq e => by omega))
      have HV5 := hid ((HX2.out.frame hf5 fun q hq e => by have h1 := hq.1; have h2 := HW.out; omega).t)
      clear hR hf5
      go_wp2_with fail
      refine bodyPost_ret (results_ct rfl _ _ (w.heap.size + 1 + 1 + 1) _ _ _ _ rfl HRR.out Try.underlying24 rfl (by kernel_rfl)) rfl ?_
      exact ⟨_, by rw [HP.out]; rfl, HF5.out, by rw [HP.out]; exact HV5.out⟩
    · have q6 : (pc != 0) = true := by simpa using hpc
      have HP2 := HP
      have HP := hid (show nSlice x y z = (V0, pc) by rw [HP2.out]; unfold pList; rw [if_neg hpc])
      clear hpc HP2
      go_enter Try.func24, Try.ntmps24
      go_wp2_with fail
      refine (HG.out _ HF0.out).mono ?_
      rintro e w1 ⟨v4, rfl, hf1, hv4⟩
      obtain ⟨a4, c4, us4, rfl, -⟩ := id hv4
      have HF1 := hid (HF0.out.trans' hf1); have HZ1 := hid (hf1.heap HZ0.out not_false)
      clear hf1 hv4
      obtain ⟨hR, hf5, z0, z1, z2, z3, zf⟩ := set4 HZ1.out (.int .i64 0) (.int .i64 0) (.string ⟨#[]⟩) (.slice none 0 0)
      have HRR := hid hR
      have HF5 := hid (HF1.out.trans hf5 (U := fun _ => False) (fun _ _ h => h) (fun q hq e => by omega))
      clear hR hf5
      go_wp2_with fail
      refine bodyPost_ret (results_ct rfl _ _ (w.heap.size + 1 + 1 + 1) _ _ _ _ rfl HRR.out Try.underlying24 rfl (by kernel_rfl)) rfl ?_
      exact ⟨_, by rw [HP.out]; rfl, HF5.out, by rw [HP.out]; exact V0.inn _ _⟩
  rw [if_neg hk] at hpi
  obtain ⟨q3, q5, q2, -⟩ := rows_true hr hk
  have hss : (x.s.size : Int) ≤ 1073741824 := by omega
  have hsz2 : (z.s.size : Int) ≤ 1073741824 := by omega
  obtain ⟨cs, cc, hg⟩ : ∃ a b, pCutS x.s y.n z.n = (a, b) := ⟨_, _, rfl⟩
  have hcut : ∀ w1, Calls Try.prog 44 #[.string x.s, .int .i64 y.n, .int .i64 z.n] w1 (fun e w' => e = .returned (.tuple #[.string cs, .int .i64 cc]) ∧ w1 = w') := fun w1 => by
    have := rstrCut_any x.s y.n z.n w1 (by omega)
    rw [hg] at this
    exact this
  rw [hg] at hpi
  have HG := hid hcut
  clear hcut hg hk hi hr hj
  by_cases hc : cc = 0
  · rw [if_pos hc] at hpi
    have q4 : (cc != 0) = false := by simpa using hc
    have HP := hid hpi
    subst hc
    clear hpi
    go_enter Try.func24, Try.ntmps24
    go_wp2_with fail
    refine (HG.out _).mono ?_
    rintro e w3 ⟨rfl, rfl⟩
    go_wp2_with fail
    refine (rS_any cs _).mono ?_
    rintro e w2 ⟨rfl, hf2⟩
    have HF := hid (HF0.out.trans' hf2); have HZ := hid (hf2.heap HZ0.out not_false)
    clear hf2
    obtain ⟨hR, hf5, z0, z1, z2, z3, zf⟩ := set4 HZ.out (.int .i64 2) (.int .i64 0) (.string cs) (.slice none 0 0)
    have HRR := hid hR
    have HF5 := hid (HF.out.trans hf5 (U := fun _ => False) (fun _ _ h => h) (fun q hq e => by omega))
    clear hR hf5
    go_wp2_with fail
    refine bodyPost_ret (results_ct rfl _ _ (w.heap.size + 1 + 1 + 1) _ _ _ _ rfl HRR.out Try.underlying24 rfl (by kernel_rfl)) rfl ?_
    exact ⟨_, by rw [HP.out]; rfl, HF5.out, by rw [HP.out]; exact VS.inn T _ _⟩
  · rw [if_neg hc] at hpi
    have q4 : (cc != 0) = true := by simpa using hc
    have HP := hid hpi
    clear hpi hc
    go_enter Try.func24, Try.ntmps24
    go_wp2_with fail
    refine (HG.out _).mono ?_
    rintro e w3 ⟨rfl, rfl⟩
    obtain ⟨-, -, z0, z1, z2, z3, zf⟩ := set4 HZ0.out (.int .i64 0) (.int .i64 0) (.string ⟨#[]⟩) (.slice none 0 0)
    go_wp2_with fail
    refine bodyPost_ret (results_ct rfl _ _ (w.heap.size + 1 + 1 + 1) _ _ _ _ rfl HZ0.out Try.underlying24 rfl (by kernel_rfl)) rfl ?_
    exact ⟨_, by rw [HP.out]; rfl, HF0.out, by rw [HP.out]; exact V0.inn _ _⟩
end Go.Proofs.Ytjngddmjgcecnaa
