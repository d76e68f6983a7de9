/- The document's PutIn. -/
import Derived.Test.YtjngddmjgcecnaaNumG
namespace Go.Proofs.Ytjngddmjgcecnaa
open Go.RowKit

set_option maxRecDepth 100000 in
set_option maxHeartbeats 6400000 in
theorem rputin_any (x y z : V) (hkx : kindedL x.l) (hkz : z.kinded) (u u' u'' : Array Value) (w : World) (h : VIn T w x u) (h' : VIn T w y u') (h'' : VIn T w z u'') (hxs : x.size ≤ 1073741824) (hzs : z.size ≤ 1073741824) : Calls Try.prog 25 #[.agg u, .agg u', .agg u''] w (GP w (nPut x y z).1 (nPut x y z).2) := by
  have hsz := V.size_eq x
  have hsz' := V.size_eq z
  obtain ⟨v1, rfl, hl1⟩ := h.open
  obtain ⟨a1, c1, us1, rfl, -⟩ := id hl1
  obtain ⟨v2, rfl, a2, c2, us2, rfl, -⟩ := h'.open
  obtain ⟨v3, rfl, a3, c3, us3, rfl, -⟩ := h''.open
  obtain ⟨hf, hb0, hb1, hb2, hz⟩ := boxes3 x y z a1 a2 a3 c1 c2 c3 w
  have HX := hid h; have HZV := hid h''; have HL := hid hl1; have HXS := hid hxs; have HZS := hid hzs; have HKX := hid hkx
  have HF0 := hid hf; have HA0 := hid hb0; have HA1 := hid hb1; have HA2 := hid hb2; have HZ0 := hid hz
  unfold GP
  clear h h' h'' hl1 hf hb0 hb1 hb2 hz hkx
  by_cases hi : y.k = 0
  rotate_left
  · have HP := hid (show nPut x y z = (V0, 1) by unfold nPut; rw [if_pos (.inl hi)])
    have q1 : (y.k != 0) = true := by simpa using hi
    clear hi
    go_enter Try.func25, Try.ntmps25
    obtain ⟨-, -, z0, z1, z2, z3, zf⟩ := set4 HZ0.out (.int .i64 0) (.int .i64 0) (.string ⟨#[]⟩) (.slice none 0 0)
    go_wp2_with fail
    refine bodyPost_ret (results_ct rfl _ _ (w.heap.size + 1 + 1 + 1) _ _ _ _ rfl HZ0.out Try.underlying24 rfl (by kernel_rfl)) rfl ?_
    exact ⟨_, by rw [HP.out]; rfl, HF0.out, by rw [HP.out]; exact V0.inn _ _⟩
  have q1 : (y.k != 0) = false := by simpa using hi
  by_cases hr : isRows x = false
  · have HP := hid (show nPut x y z = (V0, 1) by unfold nPut; rw [if_pos (.inr hr)])
    obtain ⟨q2, q3⟩ := rows_false hr
    clear hr hi
    go_enter Try.func25, Try.ntmps25
    obtain ⟨-, -, z0, z1, z2, z3, zf⟩ := set4 HZ0.out (.int .i64 0) (.int .i64 0) (.string ⟨#[]⟩) (.slice none 0 0)
    go_wp2_with fail
    refine bodyPost_ret (results_ct rfl _ _ (w.heap.size + 1 + 1 + 1) _ _ _ _ rfl HZ0.out Try.underlying24 rfl (by kernel_rfl)) rfl ?_
    exact ⟨_, by rw [HP.out]; rfl, HF0.out, by rw [HP.out]; exact V0.inn _ _⟩
  have hpi : nPut x y z = if x.k = 4 then pList (pPut x.l y.n z).1 (pPut x.l y.n z).2 else if z.k ≠ 2 ∨ z.s.size ≠ 1 then (V0, 13) else if y.n < 1 ∨ (x.s.size : Int) < y.n then (V0, 10) else (VS (x.s.extract 0 (y.n.toNat - 1) ++ z.s ++ x.s.extract y.n.toNat x.s.size), 0) := by
    unfold nPut
    rw [if_neg (by intro e; rcases e with e | e; exact e hi; exact hr e)]
  by_cases hk : x.k = 4
  · rw [if_pos hk] at hpi
    have q2 : (x.k == 4) = true := by simpa using hk
    have q3 : (x.k != 4) = false := by simpa using hk
    have q4 : (x.k != 2) = true := by simp; omega
    have q5 : (x.k == 2) = false := by simp; omega
    obtain ⟨pl, pc, hg⟩ : ∃ a b, pPut x.l y.n z = (a, b) := ⟨_, _, rfl⟩
    rw [hg] at hpi
    have HP := hid hpi
    have hplz : sizeL pl ≤ 4294967296 := by
      have h9 := congrArg Prod.fst hg
      simp only at h9
      rw [← h9]
      unfold pPut pMade mlist
      have h3 := HXS.out
      have h4 := HZS.out
      split
      · rename_i ht
        obtain ⟨t, ht1, ht2⟩ := there_iff ht
        have h5 := sizeL_set x.l (y.n - 1).toNat z (by omega)
        simp only
        split
        · omega
        · simp [sizeL]
      · simp [sizeL]
    have hget : ∀ w1, Fr (fun _ => False) w w1 → Calls Try.prog 46 #[.slice a1 x.l.length c1, .int .i64 y.n, .agg #[.int .i64 z.k, .int .i64 z.n, .string z.s, .slice a3 z.l.length c3]] w1 (fun e w' => ∃ v', e = .returned (.tuple #[v', .int .i64 pc]) ∧ Fr (fun _ => False) w1 w' ∧ VL T w' pl v') := fun w1 hf => by
      have := rput_any x.l HKX.out z hkz _ _ y.n w1 (HL.out.fr hf) (HZV.out.fr hf) (by have := HXS.out; omega) HZS.out
      rw [hg] at this
      exact this
    have HG := hid hget; have HPL := hid hplz
    clear hk hpi hget hg hi hr hplz
    by_cases hpc : pc = 0
    · have q6 : (pc != 0) = false := by simpa using hpc
      have HPC := hid hpc
      clear hpc
      go_enter Try.func25, Try.ntmps25
      go_wp2_with fail
      refine (HG.out _ HF0.out).mono ?_
      rintro e w1 ⟨v4, rfl, hf1, hv4⟩
      obtain ⟨a4, c4, us4, rfl, -⟩ := id hv4
      have HF1 := hid (HF0.out.trans' hf1); have HZ1 := hid (hf1.heap HZ0.out not_false); have HV4 := hid hv4
      clear hf1 hv4
      go_wp2_with fail
      refine (rL_any pl (by have := HPL.out; omega) T _ _ HV4.out).mono ?_
      rintro e w2 ⟨u2, rfl, hf2, hx2⟩
      obtain ⟨v5, rfl, hv5⟩ : ∃ v, u2 = #[.int .i64 4, .int .i64 0, .string ⟨#[]⟩, v] ∧ VL _ w2 pl v := hx2.open
      obtain ⟨a5, c5, us5, rfl, -⟩ := hv5
      have HF := hid (HF1.out.trans' hf2); have HZ := hid (hf2.heap HZ1.out not_false)
      have HX2 := hid hx2; have HW := hid (heap_lt HZ1.out)
      have HP2 := HP
      have HP := hid (show nPut x y z = (.mk 4 0 ⟨#[]⟩ pl, 0) by rw [HP2.out, HPC.out]; rfl)
      have hpc := HPC.out
      subst hpc
      clear hf2 hx2 HPC
      obtain ⟨hR, hf5, z0, z1, z2, z3, zf⟩ := set4 HZ.out (.int .i64 4) (.int .i64 0) (.string ⟨#[]⟩) (.slice a5 pl.length c5)
      have HRR := hid hR
      have HF5 := hid (HF.out.trans hf5 (U := fun _ => False) (fun _ _ h => h) (fun q hq e => by omega))
      have HV5 := hid ((HX2.out.frame hf5 fun q hq e => by have h1 := hq.1; have h2 := HW.out; omega).t)
      clear hR hf5
      go_wp2_with fail
      refine bodyPost_ret (results_ct rfl _ _ (w.heap.size + 1 + 1 + 1) _ _ _ _ rfl HRR.out Try.underlying24 rfl (by kernel_rfl)) rfl ?_
      exact ⟨_, by rw [HP.out]; rfl, HF5.out, by rw [HP.out]; exact HV5.out⟩
    · have q6 : (pc != 0) = true := by simpa using hpc
      have HP2 := HP
      have HP := hid (show nPut x y z = (V0, pc) by rw [HP2.out]; unfold pList; rw [if_neg hpc])
      clear hpc HP2
      go_enter Try.func25, Try.ntmps25
      go_wp2_with fail
      refine (HG.out _ HF0.out).mono ?_
      rintro e w1 ⟨v4, rfl, hf1, hv4⟩
      obtain ⟨a4, c4, us4, rfl, -⟩ := id hv4
      have HF1 := hid (HF0.out.trans' hf1); have HZ1 := hid (hf1.heap HZ0.out not_false)
      clear hf1 hv4
      obtain ⟨hR, hf5, z0, z1, z2, z3, zf⟩ := set4 HZ1.out (.int .i64 0) (.int .i64 0) (.string ⟨#[]⟩) (.slice none 0 0)
      have HRR := hid hR
      have HF5 := hid (HF1.out.trans hf5 (U := fun _ => False) (fun _ _ h => h) (fun q hq e => by omega))
      clear hR hf5
      go_wp2_with fail
      refine bodyPost_ret (results_ct rfl _ _ (w.heap.size + 1 + 1 + 1) _ _ _ _ rfl HRR.out Try.underlying24 rfl (by kernel_rfl)) rfl ?_
      exact ⟨_, by rw [HP.out]; rfl, HF5.out, by rw [HP.out]; exact V0.inn _ _⟩
  rw [if_neg hk] at hpi
  obtain ⟨q3, q5, q2, -⟩ := rows_true hr hk
  have hss : (x.s.size : Int) ≤ 1073741824 := by omega
  have hsz2 : (z.s.size : Int) ≤ 1073741824 := by omega
  by_cases hb : z.k ≠ 2 ∨ z.s.size ≠ 1
  · rw [if_pos hb] at hpi
    have HP := hid hpi
    have hb' : (z.k != 2) = true ∨ ((z.k != 2) = false ∧ ((z.s.size : Int) != 1) = true) := by
      by_cases h2 : z.k = 2
      · exact .inr ⟨by simpa using h2, by rcases hb with hb | hb; exact absurd h2 hb; simp; omega⟩
      · exact .inl (by simpa using h2)
    clear hb hk hpi hi hr
    rcases hb' with q4 | ⟨q4, q6⟩
    all_goals
      go_enter Try.func25, Try.ntmps25
      obtain ⟨-, -, z0, z1, z2, z3, zf⟩ := set4 HZ0.out (.int .i64 0) (.int .i64 0) (.string ⟨#[]⟩) (.slice none 0 0)
      go_wp2_with fail
      refine bodyPost_ret (results_ct rfl _ _ (w.heap.size + 1 + 1 + 1) _ _ _ _ rfl HZ0.out Try.underlying24 rfl (by kernel_rfl)) rfl ?_
      exact ⟨_, by rw [HP.out]; rfl, HF0.out, by rw [HP.out]; exact V0.inn _ _⟩
  rw [if_neg hb] at hpi
  have q4 : (z.k != 2) = false := by simp; exact Classical.byContradiction fun e => hb (.inl e)
  have q6 : ((z.s.size : Int) != 1) = false := by simp; exact Classical.byContradiction fun e => hb (.inr (by omega))
  clear hb hk hi hr
  by_cases hb : y.n < 1 ∨ (x.s.size : Int) < y.n
  · rw [if_pos hb] at hpi
    have HP := hid hpi
    have hb' : y.n < 1 ∨ (1 ≤ y.n ∧ (x.s.size : Int) < y.n) := by omega
    clear hb hpi
    rcases hb' with hb' | ⟨hb1, hb2⟩
    all_goals
      go_enter Try.func25, Try.ntmps25
      obtain ⟨-, -, z0, z1, z2, z3, zf⟩ := set4 HZ0.out (.int .i64 0) (.int .i64 0) (.string ⟨#[]⟩) (.slice none 0 0)
      go_wp2_with fail
      refine bodyPost_ret (results_ct rfl _ _ (w.heap.size + 1 + 1 + 1) _ _ _ _ rfl HZ0.out Try.underlying24 rfl (by kernel_rfl)) rfl ?_
      exact ⟨_, by rw [HP.out]; rfl, HF0.out, by rw [HP.out]; exact V0.inn _ _⟩
  · rw [if_neg hb] at hpi
    have HP := hid hpi
    have hb1 : ¬ y.n < 1 := by omega
    have hb2 : ¬ (x.s.size : Int) < y.n := by omega
    clear hb hpi
    go_enter Try.func25, Try.ntmps25
    go_upto_region 12 with fail
    have hdrW : Fr (fun _ => False) ((((w.alloc (.cells #[.int .i64 x.k, .int .i64 x.n, .string x.s, .slice a1 x.l.length c1] 24)).alloc (.cells #[.int .i64 y.k, .int .i64 y.n, .string y.s, .slice a2 y.l.length c2] 24)).alloc (.cells #[.int .i64 z.k, .int .i64 z.n, .string z.s, .slice a3 z.l.length c3] 24)).alloc (.cells #[.int .i64 0, .int .i64 0, .string ⟨#[]⟩, .slice none 0 0] 24)) ((((w.alloc (.cells #[.int .i64 x.k, .int .i64 x.n, .string x.s, .slice a1 x.l.length c1] 24)).alloc (.cells #[.int .i64 y.k, .int .i64 y.n, .string y.s, .slice a2 y.l.length c2] 24)).alloc (.cells #[.int .i64 z.k, .int .i64 z.n, .string z.s, .slice a3 z.l.length c3] 24)).alloc (.cells #[.int .i64 0, .int .i64 0, .string ⟨#[]⟩, .slice none 0 0] 24)).drew := (Fr.refl _ _).drew
    have HZ1 := HZ0
    have HB0 := HA0; have HB1 := HA1; have HB2 := HA2
    generalize ((((w.alloc (.cells #[.int .i64 x.k, .int .i64 x.n, .string x.s, .slice a1 x.l.length c1] 24)).alloc (.cells #[.int .i64 y.k, .int .i64 y.n, .string y.s, .slice a2 y.l.length c2] 24)).alloc (.cells #[.int .i64 z.k, .int .i64 z.n, .string z.s, .slice a3 z.l.length c3] 24)).alloc (.cells #[.int .i64 0, .int .i64 0, .string ⟨#[]⟩, .slice none 0 0] 24)) = w1 at *
    have aq0 : w1.cell? ⟨w.heap.size, 0, none⟩ = some (.int .i64 x.k) := by rw [cell_of_row _ _ 0 _ _ _ HB0.out]; rfl
    have aq1 : w1.cell? ⟨w.heap.size, 1, none⟩ = some (.int .i64 x.n) := by rw [cell_of_row _ _ 1 _ _ _ HB0.out]; rfl
    have aq2 : w1.cell? ⟨w.heap.size, 2, none⟩ = some (.string x.s) := by rw [cell_of_row _ _ 2 _ _ _ HB0.out]; rfl
    have aq3 : w1.cell? ⟨w.heap.size, 3, none⟩ = some (.slice a1 x.l.length c1) := by rw [cell_of_row _ _ 3 _ _ _ HB0.out]; rfl
    have bq0 : w1.cell? ⟨w.heap.size + 1, 0, none⟩ = some (.int .i64 y.k) := by rw [cell_of_row _ _ 0 _ _ _ HB1.out]; rfl
    have bq1 : w1.cell? ⟨w.heap.size + 1, 1, none⟩ = some (.int .i64 y.n) := by rw [cell_of_row _ _ 1 _ _ _ HB1.out]; rfl
    have bq2 : w1.cell? ⟨w.heap.size + 1, 2, none⟩ = some (.string y.s) := by rw [cell_of_row _ _ 2 _ _ _ HB1.out]; rfl
    have bq3 : w1.cell? ⟨w.heap.size + 1, 3, none⟩ = some (.slice a2 y.l.length c2) := by rw [cell_of_row _ _ 3 _ _ _ HB1.out]; rfl
    have cq0 : w1.cell? ⟨w.heap.size + 1 + 1, 0, none⟩ = some (.int .i64 z.k) := by rw [cell_of_row _ _ 0 _ _ _ HB2.out]; rfl
    have cq1 : w1.cell? ⟨w.heap.size + 1 + 1, 1, none⟩ = some (.int .i64 z.n) := by rw [cell_of_row _ _ 1 _ _ _ HB2.out]; rfl
    have cq2 : w1.cell? ⟨w.heap.size + 1 + 1, 2, none⟩ = some (.string z.s) := by rw [cell_of_row _ _ 2 _ _ _ HB2.out]; rfl
    have cq3 : w1.cell? ⟨w.heap.size + 1 + 1, 3, none⟩ = some (.slice a3 z.l.length c3) := by rw [cell_of_row _ _ 3 _ _ _ HB2.out]; rfl
    have hw : IntKind.i64.wrap (y.n - 1) = y.n - 1 := IntWalk.i64_in _ (by omega)
    have hn1 : ¬ y.n - 1 < 0 := by omega
    have hn2 : y.n - 1 ≤ (x.s.size : Int) := by omega
    have hn3 : ¬ y.n < 0 := by omega
    have hn4 : y.n ≤ (x.s.size : Int) := by omega
    have hn5 : 0 ≤ y.n := by omega
    have hn6 : 1 ≤ y.n := by omega
    have had1 : ¬ 9223372036854775807 < min (y.n.toNat - 1) x.s.size + z.s.size := by omega
    have had2 : ¬ 9223372036854775807 < min (y.n.toNat - 1) x.s.size + z.s.size + (x.s.size - y.n.toNat) := by omega
    have hdr : Fr (fun _ => False) w1 w1.drew := hdrW
    have hdr' : Fr (fun q => q = w.heap.size + 1 + 1 + 1) w1 w1.drew := hdr.mono fun _ _ h => h.elim
    refine wpF_begin [0, 1, 2, 3, 4, 5, 6, 7, 8, 9, 10, 11, 12, 13, 14] (fun w' => Fr (fun q => q = w.heap.size + 1 + 1 + 1) w1 w') (by kernel_rfl) ?_
    (refine wpF_take (i := 0) ?_ (by kernel_rfl) (fun _ _ d _ _ h => by cases d <;> exact h) (by kernel_rfl) rfl (by kernel_rfl) (hdr') ?_ ?_; rotate_left; (· intro w' hS; go_simp; try with_reducible rfl); (try simp only [Act.put, List.setIfInBounds_toArray, List.set_cons_zero, List.set_cons_succ]))
    (refine wpF_take (i := 1) ?_ (by kernel_rfl) (fun _ _ d _ _ h => by cases d <;> exact h) (by kernel_rfl) rfl (by kernel_rfl) (hdr') ?_ ?_; rotate_left; (· intro w' hS; have q1 := Fr.cell hS aq2 (by show ¬ (w.heap.size = w.heap.size + 1 + 1 + 1); omega); have q2 := Fr.cell hS bq1 (by show ¬ (w.heap.size + 1 = w.heap.size + 1 + 1 + 1); omega); have q3 := Fr.cell hS cq2 (by show ¬ (w.heap.size + 1 + 1 = w.heap.size + 1 + 1 + 1); omega); go_simp; try with_reducible rfl); (try simp only [Act.put, List.setIfInBounds_toArray, List.set_cons_zero, List.set_cons_succ]))
    (refine wpF_take (i := 2) ?_ (by kernel_rfl) (fun _ _ d _ _ h => by cases d <;> exact h) (by kernel_rfl) rfl (by kernel_rfl) (hdr') ?_ ?_; rotate_left; (· intro w' hS; go_simp; try with_reducible rfl); (try simp only [Act.put, List.setIfInBounds_toArray, List.set_cons_zero, List.set_cons_succ]))
    (refine wpF_take (i := 3) ?_ (by kernel_rfl) (fun _ _ d _ _ h => by cases d <;> exact h) (by kernel_rfl) rfl (by kernel_rfl) (hdr') ?_ ?_; rotate_left; (· intro w' hS; have q1 := Fr.cell hS aq2 (by show ¬ (w.heap.size = w.heap.size + 1 + 1 + 1); omega); have q2 := Fr.cell hS bq1 (by show ¬ (w.heap.size + 1 = w.heap.size + 1 + 1 + 1); omega); have q3 := Fr.cell hS cq2 (by show ¬ (w.heap.size + 1 + 1 = w.heap.size + 1 + 1 + 1); omega); go_simp; try with_reducible rfl); (try simp only [Act.put, List.setIfInBounds_toArray, List.set_cons_zero, List.set_cons_succ]))
    (refine wpF_take (i := 4) ?_ (by kernel_rfl) (fun _ _ d _ _ h => by cases d <;> exact h) (by kernel_rfl) rfl (by kernel_rfl) (hdr') ?_ ?_; rotate_left; (· intro w' hS; go_simp; try with_reducible rfl); (try simp only [Act.put, List.setIfInBounds_toArray, List.set_cons_zero, List.set_cons_succ]))
    (refine wpF_take (i := 5) ?_ (by kernel_rfl) (fun _ _ d _ _ h => by cases d <;> exact h) (by kernel_rfl) rfl (by kernel_rfl) (hdr') ?_ ?_; rotate_left; (· intro w' hS; go_simp; try with_reducible rfl); (try simp only [Act.put, List.setIfInBounds_toArray, List.set_cons_zero, List.set_cons_succ]))
    (refine wpF_take (i := 6) ?_ (by kernel_rfl) (fun _ _ d _ _ h => by cases d <;> exact h) (by kernel_rfl) rfl (by kernel_rfl) (hdr') ?_ ?_; rotate_left; (· intro w' hS; go_simp; try with_reducible rfl); (try simp only [Act.put, List.setIfInBounds_toArray, List.set_cons_zero, List.set_cons_succ]))
    (refine wpF_take (i := 7) ?_ (by kernel_rfl) (fun _ _ d _ _ h => by cases d <;> exact h) (by kernel_rfl) rfl (by kernel_rfl) (hdr') ?_ ?_; rotate_left; (· intro w' hS; have q1 := Fr.cell hS aq2 (by show ¬ (w.heap.size = w.heap.size + 1 + 1 + 1); omega); have q2 := Fr.cell hS bq1 (by show ¬ (w.heap.size + 1 = w.heap.size + 1 + 1 + 1); omega); have q3 := Fr.cell hS cq2 (by show ¬ (w.heap.size + 1 + 1 = w.heap.size + 1 + 1 + 1); omega); go_simp; try with_reducible rfl); (try simp only [Act.put, List.setIfInBounds_toArray, List.set_cons_zero, List.set_cons_succ]))
    (refine wpF_take (i := 8) ?_ (by kernel_rfl) (fun _ _ d _ _ h => by cases d <;> exact h) (by kernel_rfl) rfl (by kernel_rfl) (hdr') ?_ ?_; rotate_left; (· intro w' hS; go_simp; try with_reducible rfl); (try simp only [Act.put, List.setIfInBounds_toArray, List.set_cons_zero, List.set_cons_succ]))
    (refine wpF_take (i := 9) ?_ (by kernel_rfl) (fun _ _ d _ _ h => by cases d <;> exact h) (by kernel_rfl) rfl (by kernel_rfl) (hdr') ?_ ?_; rotate_left; (· intro w' hS; go_simp; try with_reducible rfl); (try simp only [Act.put, List.setIfInBounds_toArray, List.set_cons_zero, List.set_cons_succ]))
    (refine wpF_take (i := 10) ?_ (by kernel_rfl) (fun _ _ d _ _ h => by cases d <;> exact h) (by kernel_rfl) rfl (by kernel_rfl) (hdr') ?_ ?_; rotate_left; (· intro w' hS; have q1 := Fr.cell hS aq2 (by show ¬ (w.heap.size = w.heap.size + 1 + 1 + 1); omega); have q2 := Fr.cell hS bq1 (by show ¬ (w.heap.size + 1 = w.heap.size + 1 + 1 + 1); omega); have q3 := Fr.cell hS cq2 (by show ¬ (w.heap.size + 1 + 1 = w.heap.size + 1 + 1 + 1); omega); go_simp; try with_reducible rfl); (try simp only [Act.put, List.setIfInBounds_toArray, List.set_cons_zero, List.set_cons_succ]))
    (refine wpF_take (i := 11) ?_ (by kernel_rfl) (fun _ _ d _ _ h => by cases d <;> exact h) (by kernel_rfl) rfl (by kernel_rfl) (hdr') ?_ ?_; rotate_left; (· intro w' hS; go_simp; try with_reducible rfl); (try simp only [Act.put, List.setIfInBounds_toArray, List.set_cons_zero, List.set_cons_succ]))
    (refine wpF_take (i := 12) ?_ (by kernel_rfl) (fun _ _ d _ _ h => by cases d <;> exact h) (by kernel_rfl) rfl (by kernel_rfl) (hdr') ?_ ?_; rotate_left; (· intro w' hS; have q1 := Fr.cell hS aq2 (by show ¬ (w.heap.size = w.heap.size + 1 + 1 + 1); omega); have q2 := Fr.cell hS bq1 (by show ¬ (w.heap.size + 1 = w.heap.size + 1 + 1 + 1); omega); have q3 := Fr.cell hS cq2 (by show ¬ (w.heap.size + 1 + 1 = w.heap.size + 1 + 1 + 1); omega); go_simp; try with_reducible rfl); (try simp only [Act.put, List.setIfInBounds_toArray, List.set_cons_zero, List.set_cons_succ]))
    (refine wpF_take (i := 13) ?_ (by kernel_rfl) (fun _ _ d _ _ h => by cases d <;> exact h) (by kernel_rfl) rfl (by kernel_rfl) (hdr') ?_ ?_; rotate_left; (· intro w' hS; go_simp; try with_reducible rfl); (try simp only [Act.put, List.setIfInBounds_toArray, List.set_cons_zero, List.set_cons_succ]))
    (refine wpF_take (i := 14) ?_ (by kernel_rfl) (fun _ _ d _ _ h => by cases d <;> exact h) (by kernel_rfl) rfl (by kernel_rfl) (hdr') ?_ ?_; rotate_left; (· intro w' hS; go_simp; try with_reducible rfl); (try simp only [Act.put, List.setIfInBounds_toArray, List.set_cons_zero, List.set_cons_succ]))
    refine wpF_run (i := 15) (by kernel_rfl) rfl (by kernel_rfl) (fun K hK => ?_); go_simp
    refine (rS_any _ _).mono ?_
    rintro e w2 ⟨rfl, hf2⟩
    have hS2 := hdr.trans' hf2
    refine hK _ _ (hS2.mono fun _ _ h => h.elim) ?_
    clear hK K
    try simp only [Act.put, List.setIfInBounds_toArray, List.set_cons_zero, List.set_cons_succ]
    clear aq0 aq1 aq2 aq3 bq0 bq1 bq2 bq3 cq0 cq1 cq2 cq3
    have HZ := hid (hS2.heap HZ1.out not_false); have HF := hid (HF0.out.trans' hS2)
    obtain ⟨hR, hf5, z0, z1, z2, z3, zf⟩ := set4 HZ.out (.int .i64 2) (.int .i64 0) (.string (x.s.extract 0 (y.n.toNat - 1) ++ z.s ++ x.s.extract y.n.toNat x.s.size)) (.slice none 0 0)
    have HRR := hid hR
    have HF5 := hid (HF.out.trans hf5 (U := fun _ => False) (fun _ _ h => h) (fun q hq e => by omega))
    have hS5 := hS2.trans hf5 (U := fun q => q = w.heap.size + 1 + 1 + 1) (fun _ _ h => h.elim) (fun q hq e => e)
    clear hR hf5 hS2 hf2 hdr hdr' hdrW
    (refine wpF_run (i := 16) (by kernel_rfl) rfl (by kernel_rfl) (fun K hK => ?_); go_simp; refine hK _ _ (hS5) ?_; clear hK K; (try simp only [Act.put, List.setIfInBounds_toArray, List.set_cons_zero, List.set_cons_succ]))
    (refine wpF_run (i := 17) (by kernel_rfl) rfl (by kernel_rfl) (fun K hK => ?_); go_simp; refine hK _ _ (hS5) ?_; clear hK K; (try simp only [Act.put, List.setIfInBounds_toArray, List.set_cons_zero, List.set_cons_succ]))
    refine wpF_end (by kernel_rfl) ?_
    go_wp2_with fail
    refine bodyPost_ret (results_ct rfl _ _ (w.heap.size + 1 + 1 + 1) _ _ _ _ rfl HRR.out Try.underlying24 rfl (by kernel_rfl)) rfl ?_
    exact ⟨_, by rw [HP.out]; rfl, HF5.out, by rw [HP.out]; exact VS.inn _ _ _⟩
end Go.Proofs.Ytjngddmjgcecnaa
