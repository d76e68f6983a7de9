/- Package num: Put. -/
import Derived.Test.YtjngddmjgcecnaaNumE
namespace Go.Proofs.Ytjngddmjgcecnaa
open Go.RowKit

set_option maxRecDepth 100000 in
set_option maxHeartbeats 6400000 in
theorem nput_any (x y z : V) (u u' u'' : Array Value) (w : World) (h : VIn T w x u) (h' : VIn T w y u') (h'' : VIn T w z u'') (hxs : x.size ≤ 1073741824) (hzs : z.size ≤ 1073741824) : Calls Try.prog 18 #[.agg u, .agg u', .agg u''] w (GD (fun b => w.heap.size ≤ b) w (nPut x y z).1 (nPut x y z).2) := by
  have hsz := V.size_eq x
  have hsz' := V.size_eq z
  obtain ⟨v1, rfl, hl1⟩ := h.open
  obtain ⟨a1, c1, us1, rfl, -⟩ := id hl1
  obtain ⟨v2, rfl, a2, c2, us2, rfl, -⟩ := h'.open
  obtain ⟨v3, rfl, a3, c3, us3, rfl, -⟩ := h''.open
  obtain ⟨hf, hb0, hb1, hb2, hz⟩ := boxes3 x y z a1 a2 a3 c1 c2 c3 w
  have HX := hid h; have HZV := hid h''; have HL := hid hl1; have HXS := hid hxs; have HZS := hid hzs
  have HF0 := hid hf; have HA0 := hid hb0; have HA1 := hid hb1; have HA2 := hid hb2; have HZ0 := hid hz
  unfold GD
  clear h h' h'' hl1 hf hb0 hb1 hb2 hz
  by_cases hi : y.k = 0
  rotate_left
  · have HP := hid (show nPut x y z = (V0, 1) by unfold nPut; rw [if_pos (.inl hi)])
    have q1 : (y.k != 0) = true := by simpa using hi
    clear hi
    go_enter Try.func18, Try.ntmps18
    go_wp2_with fail
    refine (raised_any 1 _).mono ?_
    rintro e w2 ⟨rfl, hf2⟩
    have HF := hid (HF0.out.trans' hf2); have HZ := hid (hf2.heap HZ0.out not_false)
    clear hf2
    obtain ⟨hR, hf5, z0, z1, z2, z3, zf⟩ := set4 HZ.out (.int .i64 0) (.int .i64 0) (.string ⟨#[]⟩) (.slice none 0 0)
    have HRR := hid hR
    have HF5 := hid (HF.out.trans hf5 (U := fun _ => False) (fun _ _ h => h) (fun q hq e => by omega))
    clear hR hf5
    go_wp2_with fail
    refine bodyPost_ret (results_ct rfl _ _ (w.heap.size + 1 + 1 + 1) _ _ _ _ rfl HRR.out Try.underlying24 rfl (by kernel_rfl)) rfl ?_
    exact ⟨_, by rw [HP.out]; rfl, HF5.out, by rw [HP.out]; exact V0.inn _ _⟩
  have q1 : (y.k != 0) = false := by simpa using hi
  have HC := hid (rows_any x _ _ (HX.out.fr HF0.out))
  by_cases hr : isRows x = false
  · have HP := hid (show nPut x y z = (V0, 1) by unfold nPut; rw [if_pos (.inr hr)])
    rw [hr] at HC
    clear hr hi
    go_enter Try.func18, Try.ntmps18
    go_wp2_with fail
    refine HC.out.mono ?_
    rintro e w1 ⟨rfl, hf1⟩
    have HF1 := hid (HF0.out.trans' hf1); have HZ1 := hid (hf1.heap HZ0.out not_false)
    clear hf1
    go_wp2_with fail
    refine (raised_any 1 _).mono ?_
    rintro e w2 ⟨rfl, hf2⟩
    have HF := hid (HF1.out.trans' hf2); have HZ := hid (hf2.heap HZ1.out not_false)
    clear hf2
    obtain ⟨hR, hf5, z0, z1, z2, z3, zf⟩ := set4 HZ.out (.int .i64 0) (.int .i64 0) (.string ⟨#[]⟩) (.slice none 0 0)
    have HRR := hid hR
    have HF5 := hid (HF.out.trans hf5 (U := fun _ => False) (fun _ _ h => h) (fun q hq e => by omega))
    clear hR hf5
    go_wp2_with fail
    refine bodyPost_ret (results_ct rfl _ _ (w.heap.size + 1 + 1 + 1) _ _ _ _ rfl HRR.out Try.underlying24 rfl (by kernel_rfl)) rfl ?_
    exact ⟨_, by rw [HP.out]; rfl, HF5.out, by rw [HP.out]; exact V0.inn _ _⟩
  have hpi : nPut x y z = if x.k = 4 then pList (pPut x.l y.n z).1 (pPut x.l y.n z).2 else if z.k ≠ 2 ∨ z.s.size ≠ 1 then (V0, 13) else if y.n < 1 ∨ (x.s.size : Int) < y.n then (V0, 10) else (VS (x.s.extract 0 (y.n.toNat - 1) ++ z.s ++ x.s.extract y.n.toNat x.s.size), 0) := by
    unfold nPut
    rw [if_neg (by intro e; rcases e with e | e; exact e hi; exact hr e)]
  rw [show isRows x = true by simpa using hr] at HC
  clear hi hr
  by_cases hk : x.k = 4
  · rw [if_pos hk] at hpi
    have q2 : (x.k == 4) = true := by simpa using hk
    obtain ⟨pl, pc, hg⟩ : ∃ a b, pPut x.l y.n z = (a, b) := ⟨_, _, rfl⟩
    rw [hg] at hpi
    have HP := hid hpi
    have hget : ∀ w1, Fr (fun _ => False) w w1 → Calls Try.prog 38 #[.slice a1 x.l.length c1, .int .i64 y.n, .agg #[.int .i64 z.k, .int .i64 z.n, .string z.s, .slice a3 z.l.length c3]] w1 (fun e w' => ∃ v', e = .returned (.tuple #[v', .int .i64 pc]) ∧ Fr (fun _ => False) w1 w' ∧ VL (fun b => w1.heap.size ≤ b) w' pl v') := fun w1 hf => by
      have := put_new x.l z _ _ y.n w1 (HL.out.fr hf) (HZV.out.fr hf) (by have := HXS.out; omega) HZS.out
      rw [hg] at this
      exact this
    have HG := hid hget
    clear hk hpi hget hg
    go_enter Try.func18, Try.ntmps18
    go_wp2_with fail
    refine HC.out.mono ?_
    rintro e w1 ⟨rfl, hf1⟩
    have HF1 := hid (HF0.out.trans' hf1); have HZ1 := hid (hf1.heap HZ0.out not_false); have HB0 := hid (hf1.heap HA0.out not_false); have HB1 := hid (hf1.heap HA1.out not_false); have HB2 := hid (hf1.heap HA2.out not_false)
    clear hf1
    have aq0 : w1.cell? ⟨w.heap.size, 0, none⟩ = some (.int .i64 x.k) := by rw [cell_of_row _ _ 0 _ _ _ HB0.out]; rfl
    have aq1 : w1.cell? ⟨w.heap.size, 1, none⟩ = some (.int .i64 x.n) := by rw [cell_of_row _ _ 1 _ _ _ HB0.out]; rfl
    have aq2 : w1.cell? ⟨w.heap.size, 2, none⟩ = some (.string x.s) := by rw [cell_of_row _ _ 2 _ _ _ HB0.out]; rfl
    have aq3 : w1.cell? ⟨w.heap.size, 3, none⟩ = some (.slice a1 x.l.length c1) := by rw [cell_of_row _ _ 3 _ _ _ HB0.out]; rfl
    have bq0 : w1.cell? ⟨w.heap.size + 1, 0, none⟩ = some (.int .i64 y.k) := by rw [cell_of_row _ _ 0 _ _ _ HB1.out]; rfl
    have bq1 : w1.cell? ⟨w.heap.size + 1, 1, none⟩ = some (.int .i64 y.n) := by rw [cell_of_row _ _ 1 _ _ _ HB1.out]; rfl
    have bq2 : w1.cell? ⟨w.heap.size + 1, 2, none⟩ = some (.string y.s) := by rw [cell_of_row _ _ 2 _ _ _ HB1.out]; rfl
    have bq3 : w1.cell? ⟨w.heap.size + 1, 3, none⟩ = some (.slice a2 y.l.length c2) := by rw [cell_of_row _ _ 3 _ _ _ HB1.out]; rfl
    have cq0 : w1.cell? ⟨w.heap.size + 1 + 1, 0, none⟩ = some (.int .i64 z.k) := by rw [cell_of_row _ _ 0 _ _ _ HB2.out]; rfl
    have cq1 : w1.cell? ⟨w.heap.size + 1 + 1, 1, none⟩ = some (.int .i64 z.n) := by rw [cell_of_row _ _ 1 _ _ _ HB2.out]; rfl
    have cq2 : w1.cell? ⟨w.heap.size + 1 + 1, 2, none⟩ = some (.string z.s) := by rw [cell_of_row _ _ 2 _ _ _ HB2.out]; rfl
    have cq3 : w1.cell? ⟨w.heap.size + 1 + 1, 3, none⟩ = some (.slice a3 z.l.length c3) := by rw [cell_of_row _ _ 3 _ _ _ HB2.out]; rfl
    go_wp2_with fail
    refine (HG.out _ HF1.out).mono ?_
    rintro e w3 ⟨v4, rfl, hf3, hv4⟩
    obtain ⟨a4, c4, us4, rfl, -⟩ := id hv4
    have HF3 := hid (HF1.out.trans' hf3); have HZ3 := hid (hf3.heap HZ1.out not_false); have HV4 := hid hv4
    have HW2 := hid (heap_lt HZ1.out)
    clear hf3 hv4
    clear aq0 aq1 aq2 aq3 bq0 bq1 bq2 bq3 cq0 cq1 cq2 cq3
    go_wp2_with fail
    refine (list_any _ pl _ pc _ HV4.out).mono ?_
    rintro e w2 ⟨u2, rfl, hf2, hx2⟩
    obtain ⟨v5, rfl, a5, c5, us5, rfl, -⟩ := hx2.open
    have HF := hid (HF3.out.trans' hf2); have HZ := hid (hf2.heap HZ3.out not_false)
    have HX2 := hid hx2
    clear hf2 hx2
    obtain ⟨hR, hf5, z0, z1, z2, z3, zf⟩ := set4 HZ.out (.int .i64 (pList pl pc).1.k) (.int .i64 (pList pl pc).1.n) (.string (pList pl pc).1.s) (.slice a5 (pList pl pc).1.l.length c5)
    have HRR := hid hR
    have HF5 := hid (HF.out.trans hf5 (U := fun _ => False) (fun _ _ h => h) (fun q hq e => by omega))
    have HV5 := hid ((HX2.out.frame hf5 fun q hq e => by have := HW2.out; omega).mono (E := fun b => w.heap.size ≤ b) fun q _ hq => Nat.le_trans HF1.out.size hq)
    clear hR hf5
    go_wp2_with fail
    refine bodyPost_ret (results_ct rfl _ _ (w.heap.size + 1 + 1 + 1) _ _ _ _ rfl HRR.out Try.underlying24 rfl (by kernel_rfl)) rfl ?_
    exact ⟨_, by rw [HP.out]; rfl, HF5.out, by rw [HP.out]; exact HV5.out⟩
  rw [if_neg hk] at hpi
  have q2 : (x.k == 4) = false := by simpa using hk
  have hss : (x.s.size : Int) ≤ 1073741824 := by omega
  have hsz2 : (z.s.size : Int) ≤ 1073741824 := by omega
  by_cases hb : z.k ≠ 2 ∨ z.s.size ≠ 1
  · rw [if_pos hb] at hpi
    have HP := hid hpi
    have hb' : (z.k != 2) = true ∨ ((z.k != 2) = false ∧ ((z.s.size : Int) != 1) = true) := by
      by_cases h2 : z.k = 2
      · exact .inr ⟨by simpa using h2, by rcases hb with hb | hb; exact absurd h2 hb; simp; omega⟩
      · exact .inl (by simpa using h2)
    clear hb hk hpi
    go_enter Try.func18, Try.ntmps18
    go_wp2_with fail
    refine HC.out.mono ?_
    rintro e w1 ⟨rfl, hf1⟩
    have HF1 := hid (HF0.out.trans' hf1); have HZ1 := hid (hf1.heap HZ0.out not_false); have HB0 := hid (hf1.heap HA0.out not_false); have HB1 := hid (hf1.heap HA1.out not_false); have HB2 := hid (hf1.heap HA2.out not_false)
    clear hf1
    have aq0 : w1.cell? ⟨w.heap.size, 0, none⟩ = some (.int .i64 x.k) := by rw [cell_of_row _ _ 0 _ _ _ HB0.out]; rfl
    have aq1 : w1.cell? ⟨w.heap.size, 1, none⟩ = some (.int .i64 x.n) := by rw [cell_of_row _ _ 1 _ _ _ HB0.out]; rfl
    have aq2 : w1.cell? ⟨w.heap.size, 2, none⟩ = some (.string x.s) := by rw [cell_of_row _ _ 2 _ _ _ HB0.out]; rfl
    have aq3 : w1.cell? ⟨w.heap.size, 3, none⟩ = some (.slice a1 x.l.length c1) := by rw [cell_of_row _ _ 3 _ _ _ HB0.out]; rfl
    have bq0 : w1.cell? ⟨w.heap.size + 1, 0, none⟩ = some (.int .i64 y.k) := by rw [cell_of_row _ _ 0 _ _ _ HB1.out]; rfl
    have bq1 : w1.cell? ⟨w.heap.size + 1, 1, none⟩ = some (.int .i64 y.n) := by rw [cell_of_row _ _ 1 _ _ _ HB1.out]; rfl
    have bq2 : w1.cell? ⟨w.heap.size + 1, 2, none⟩ = some (.string y.s) := by rw [cell_of_row _ _ 2 _ _ _ HB1.out]; rfl
    have bq3 : w1.cell? ⟨w.heap.size + 1, 3, none⟩ = some (.slice a2 y.l.length c2) := by rw [cell_of_row _ _ 3 _ _ _ HB1.out]; rfl
    have cq0 : w1.cell? ⟨w.heap.size + 1 + 1, 0, none⟩ = some (.int .i64 z.k) := by rw [cell_of_row _ _ 0 _ _ _ HB2.out]; rfl
    have cq1 : w1.cell? ⟨w.heap.size + 1 + 1, 1, none⟩ = some (.int .i64 z.n) := by rw [cell_of_row _ _ 1 _ _ _ HB2.out]; rfl
    have cq2 : w1.cell? ⟨w.heap.size + 1 + 1, 2, none⟩ = some (.string z.s) := by rw [cell_of_row _ _ 2 _ _ _ HB2.out]; rfl
    have cq3 : w1.cell? ⟨w.heap.size + 1 + 1, 3, none⟩ = some (.slice a3 z.l.length c3) := by rw [cell_of_row _ _ 3 _ _ _ HB2.out]; rfl
    rcases hb' with q4 | ⟨q4, q5⟩
    all_goals
      go_wp2_with fail
      clear aq0 aq1 aq2 aq3 bq0 bq1 bq2 bq3 cq0 cq1 cq2 cq3
      refine (raised_any 13 _).mono ?_
      rintro e w2 ⟨rfl, hf2⟩
      have HF := hid (HF1.out.trans' hf2); have HZ := hid (hf2.heap HZ1.out not_false)
      clear hf2
      obtain ⟨hR, hf5, z0, z1, z2, z3, zf⟩ := set4 HZ.out (.int .i64 0) (.int .i64 0) (.string ⟨#[]⟩) (.slice none 0 0)
      have HRR := hid hR
      have HF5 := hid (HF.out.trans hf5 (U := fun _ => False) (fun _ _ h => h) (fun q hq e => by omega))
      clear hR hf5
      go_wp2_with fail
      refine bodyPost_ret (results_ct rfl _ _ (w.heap.size + 1 + 1 + 1) _ _ _ _ rfl HRR.out Try.underlying24 rfl (by kernel_rfl)) rfl ?_
      exact ⟨_, by rw [HP.out]; rfl, HF5.out, by rw [HP.out]; exact V0.inn _ _⟩
  rw [if_neg hb] at hpi
  have q4 : (z.k != 2) = false := by simp; exact Classical.byContradiction fun e => hb (.inl e)
  have q5 : ((z.s.size : Int) != 1) = false := by simp; exact Classical.byContradiction fun e => hb (.inr (by omega))
  clear hb hk
  by_cases hb : y.n < 1 ∨ (x.s.size : Int) < y.n
  · rw [if_pos hb] at hpi
    have HP := hid hpi
    have hb' : y.n < 1 ∨ (1 ≤ y.n ∧ (x.s.size : Int) < y.n) := by omega
    clear hb hpi
    go_enter Try.func18, Try.ntmps18
    go_wp2_with fail
    refine HC.out.mono ?_
    rintro e w1 ⟨rfl, hf1⟩
    have HF1 := hid (HF0.out.trans' hf1); have HZ1 := hid (hf1.heap HZ0.out not_false); have HB0 := hid (hf1.heap HA0.out not_false); have HB1 := hid (hf1.heap HA1.out not_false); have HB2 := hid (hf1.heap HA2.out not_false)
    clear hf1
    have aq0 : w1.cell? ⟨w.heap.size, 0, none⟩ = some (.int .i64 x.k) := by rw [cell_of_row _ _ 0 _ _ _ HB0.out]; rfl
    have aq1 : w1.cell? ⟨w.heap.size, 1, none⟩ = some (.int .i64 x.n) := by rw [cell_of_row _ _ 1 _ _ _ HB0.out]; rfl
    have aq2 : w1.cell? ⟨w.heap.size, 2, none⟩ = some (.string x.s) := by rw [cell_of_row _ _ 2 _ _ _ HB0.out]; rfl
    have aq3 : w1.cell? ⟨w.heap.size, 3, none⟩ = some (.slice a1 x.l.length c1) := by rw [cell_of_row _ _ 3 _ _ _ HB0.out]; rfl
    have bq0 : w1.cell? ⟨w.heap.size + 1, 0, none⟩ = some (.int .i64 y.k) := by rw [cell_of_row _ _ 0 _ _ _ HB1.out]; rfl
    have bq1 : w1.cell? ⟨w.heap.size + 1, 1, none⟩ = some (.int .i64 y.n) := by rw [cell_of_row _ _ 1 _ _ _ HB1.out]; rfl
    have bq2 : w1.cell? ⟨w.heap.size + 1, 2, none⟩ = some (.string y.s) := by rw [cell_of_row _ _ 2 _ _ _ HB1.out]; rfl
    have bq3 : w1.cell? ⟨w.heap.size + 1, 3, none⟩ = some (.slice a2 y.l.length c2) := by rw [cell_of_row _ _ 3 _ _ _ HB1.out]; rfl
    have cq0 : w1.cell? ⟨w.heap.size + 1 + 1, 0, none⟩ = some (.int .i64 z.k) := by rw [cell_of_row _ _ 0 _ _ _ HB2.out]; rfl
    have cq1 : w1.cell? ⟨w.heap.size + 1 + 1, 1, none⟩ = some (.int .i64 z.n) := by rw [cell_of_row _ _ 1 _ _ _ HB2.out]; rfl
    have cq2 : w1.cell? ⟨w.heap.size + 1 + 1, 2, none⟩ = some (.string z.s) := by rw [cell_of_row _ _ 2 _ _ _ HB2.out]; rfl
    have cq3 : w1.cell? ⟨w.heap.size + 1 + 1, 3, none⟩ = some (.slice a3 z.l.length c3) := by rw [cell_of_row _ _ 3 _ _ _ HB2.out]; rfl
    rcases hb' with hb' | ⟨hb1, hb2⟩
    all_goals
      go_wp2_with fail
      clear aq0 aq1 aq2 aq3 bq0 bq1 bq2 bq3 cq0 cq1 cq2 cq3
      refine (raised_any 10 _).mono ?_
      rintro e w2 ⟨rfl, hf2⟩
      have HF := hid (HF1.out.trans' hf2); have HZ := hid (hf2.heap HZ1.out not_false)
      clear hf2
      obtain ⟨hR, hf5, z0, z1, z2, z3, zf⟩ := set4 HZ.out (.int .i64 0) (.int .i64 0) (.string ⟨#[]⟩) (.slice none 0 0)
      have HRR := hid hR
      have HF5 := hid (HF.out.trans hf5 (U := fun _ => False) (fun _ _ h => h) (fun q hq e => by omega))
      clear hR hf5
      go_wp2_with fail
      refine bodyPost_ret (results_ct rfl _ _ (w.heap.size + 1 + 1 + 1) _ _ _ _ rfl HRR.out Try.underlying24 rfl (by kernel_rfl)) rfl ?_
      exact ⟨_, by rw [HP.out]; rfl, HF5.out, by rw [HP.out]; exact V0.inn _ _⟩
  · rw [if_neg hb] at hpi
    have HP := hid hpi
    have hb1 : ¬ y.n < 1 := by omega
    have hb2 : ¬ (x.s.size : Int) < y.n := by omega
    clear hb hpi
    go_enter Try.func18, Try.ntmps18
    go_wp2_with fail
    refine HC.out.mono ?_
    rintro e w1 ⟨rfl, hf1⟩
    have HF1 := hid (HF0.out.trans' hf1); have HZ1 := hid (hf1.heap HZ0.out not_false); have HB0 := hid (hf1.heap HA0.out not_false); have HB1 := hid (hf1.heap HA1.out not_false); have HB2 := hid (hf1.heap HA2.out not_false)
    clear hf1
    have aq0 : w1.cell? ⟨w.heap.size, 0, none⟩ = some (.int .i64 x.k) := by rw [cell_of_row _ _ 0 _ _ _ HB0.out]; rfl
    have aq1 : w1.cell? ⟨w.heap.size, 1, none⟩ = some (.int .i64 x.n) := by rw [cell_of_row _ _ 1 _ _ _ HB0.out]; rfl
    have aq2 : w1.cell? ⟨w.heap.size, 2, none⟩ = some (.string x.s) := by rw [cell_of_row _ _ 2 _ _ _ HB0.out]; rfl
    have aq3 : w1.cell? ⟨w.heap.size, 3, none⟩ = some (.slice a1 x.l.length c1) := by rw [cell_of_row _ _ 3 _ _ _ HB0.out]; rfl
    have bq0 : w1.cell? ⟨w.heap.size + 1, 0, none⟩ = some (.int .i64 y.k) := by rw [cell_of_row _ _ 0 _ _ _ HB1.out]; rfl
    have bq1 : w1.cell? ⟨w.heap.size + 1, 1, none⟩ = some (.int .i64 y.n) := by rw [cell_of_row _ _ 1 _ _ _ HB1.out]; rfl
    have bq2 : w1.cell? ⟨w.heap.size + 1, 2, none⟩ = some (.string y.s) := by rw [cell_of_row _ _ 2 _ _ _ HB1.out]; rfl
    have bq3 : w1.cell? ⟨w.heap.size + 1, 3, none⟩ = some (.slice a2 y.l.length c2) := by rw [cell_of_row _ _ 3 _ _ _ HB1.out]; rfl
    have cq0 : w1.cell? ⟨w.heap.size + 1 + 1, 0, none⟩ = some (.int .i64 z.k) := by rw [cell_of_row _ _ 0 _ _ _ HB2.out]; rfl
    have cq1 : w1.cell? ⟨w.heap.size + 1 + 1, 1, none⟩ = some (.int .i64 z.n) := by rw [cell_of_row _ _ 1 _ _ _ HB2.out]; rfl
    have cq2 : w1.cell? ⟨w.heap.size + 1 + 1, 2, none⟩ = some (.string z.s) := by rw [cell_of_row _ _ 2 _ _ _ HB2.out]; rfl
    have cq3 : w1.cell? ⟨w.heap.size + 1 + 1, 3, none⟩ = some (.slice a3 z.l.length c3) := by rw [cell_of_row _ _ 3 _ _ _ HB2.out]; rfl
    go_upto_region 9 with fail
    have hw : IntKind.i64.wrap (y.n - 1) = y.n - 1 := IntWalk.i64_in _ (by omega)
    have hn1 : ¬ y.n - 1 < 0 := by omega
    have hn2 : y.n - 1 ≤ (x.s.size : Int) := by omega
    have hn3 : ¬ y.n < 0 := by omega
    have hn4 : y.n ≤ (x.s.size : Int) := by omega
    have hn5 : 0 ≤ y.n := by omega
    have had1 : ¬ 9223372036854775807 < min (y.n.toNat - 1) x.s.size + z.s.size := by omega
    have had2 : ¬ 9223372036854775807 < min (y.n.toNat - 1) x.s.size + z.s.size + (x.s.size - y.n.toNat) := by omega
    have hdr : Fr (fun _ => False) w1 w1.drew := (Fr.refl _ _).drew
    have hdr' : Fr (fun q => q = w.heap.size + 1 + 1 + 1) w1 w1.drew := hdr.mono fun _ _ h => h.elim
    have had2 : ¬ 9223372036854775807 < min (y.n.toNat - 1) x.s.size + z.s.size + (x.s.size - y.n.toNat) := by omega
    refine wpF_begin [0, 1, 2, 3, 4, 5, 6, 7, 8, 9, 10, 11, 12, 13, 14] (fun w' => Fr (fun q => q = w.heap.size + 1 + 1 + 1) w1 w') (by kernel_rfl) ?_
    (refine wpF_take (i := 0) ?_ (by kernel_rfl) (fun _ _ d _ _ h => by cases d <;> exact h) (by kernel_rfl) rfl (by kernel_rfl) (hdr') ?_ ?_; rotate_left; (· intro w' hS; go_simp; try with_reducible rfl); (try simp only [Act.put, List.setIfInBounds_toArray, List.set_cons_zero, List.set_cons_succ]))
    (refine wpF_take (i := 1) ?_ (by kernel_rfl) (fun _ _ d _ _ h => by cases d <;> exact h) (by kernel_rfl) rfl (by kernel_rfl) (hdr') ?_ ?_; rotate_left; (· intro w' hS; have q1 := Fr.cell hS aq2 (by show ¬ (w.heap.size = w.heap.size + 1 + 1 + 1); omega); have q2 := Fr.cell hS bq1 (by show ¬ (w.heap.size + 1 = w.heap.size + 1 + 1 + 1); omega); have q3 := Fr.cell hS cq2 (by show ¬ (w.heap.size + 1 + 1 = w.heap.size + 1 + 1 + 1); omega); go_simp; try with_reducible rfl); (try simp only [Act.put, List.setIfInBounds_toArray, List.set_cons_zero, List.set_cons_succ]))
    (refine wpF_take (i := 2) ?_ (by kernel_rfl) (fun _ _ d _ _ h => by cases d <;> exact h) (by kernel_rfl) rfl (by kernel_rfl) (hdr') ?_ ?_; rotate_left; (· intro w' hS; go_simp; try with_reducible rfl); (try simp only [Act.put, List.setIfInBounds_toArray, List.set_cons_zero, List.set_cons_succ]))
    (refine wpF_take (i := 3) ?_ (by kernel_rfl) (fun _ _ d _ _ h => by cases d <;> exact h) (by kernel_rfl) rfl (by kernel_rfl) (hdr') ?_ ?_; rotate_left; (· intro w' hS; have q1 := Fr.cell hS aq2 (by show ¬ (w.heap.size = w.heap.size + 1 + 1 + 1); omega); have q2 := Fr.cell hS bq1 (by show ¬ (w.heap.size + 1 = w.heap.size + 1 + 1 + 1); omega); have q3 := Fr.cell hS cq2 (by show ¬ (w.heap.size + 1 + 1 = w.heap.size + 1 + 1 + 1); omega); go_simp; try with_reducible rfl); (try simp only [Act.put, List.setIfInBounds_toArray, List.set_cons_zero, List.set_cons_succ]))
    (refine wpF_take (i := 4) ?_ (by kernel_rfl) (fun _ _ d _ _ h => by cases d <;> exact h) (by kernel_rfl) rfl (by kernel_rfl) (hdr') ?_ ?_; rotate_left; (· intro w' hS; go_simp; try with_reducible rfl); (try simp only [Act.put, List.setIfInBounds_toArray, List.set_cons_zero, List.set_cons_succ]))
    (refine wpF_take (i := 5) ?_ (by kernel_rfl) (fun _ _ d _ _ h => by cases d <;> exact h) (by kernel_rfl) rfl (by kernel_rfl) (hdr') ?_ ?_; rotate_left; (· intro w' hS; go_simp; try with_reducible rfl); (try simp only [Act.put, List.setIfInBounds_toArray, List.set_cons_zero, List.set_cons_succ]))
    (refine wpF_take (i := 6) ?_ (by kernel_rfl) (fun _ _ d _ _ h => by cases d <;> exact h) (by kernel_rfl) rfl (by kernel_rfl) (hdr') ?_ ?_; rotate_left; (· intro w' hS; go_simp; try with_reducible rfl); (try simp only [Act.put, List.setIfInBounds_toArray, List.set_cons_zero, List.set_cons_succ]))
    (refine wpF_take (i := 7) ?_ (by kernel_rfl) (fun _ _ d _ _ h => by cases d <;> exact h) (by kernel_rfl) rfl (by kernel_rfl) (hdr') ?_ ?_; rotate_left; (· intro w' hS; have q1 := Fr.cell hS aq2 (by show ¬ (w.heap.size = w.heap.size + 1 + 1 + 1); omega); have q2 := Fr.cell hS bq1 (by show ¬ (w.heap.size + 1 = w.heap.size + 1 + 1 + 1); omega); have q3 := Fr.cell hS cq2 (by show ¬ (w.heap.size + 1 + 1 = w.heap.size + 1 + 1 + 1); omega); go_simp; try with_reducible rfl); (try simp only [Act.put, List.setIfInBounds_toArray, List.set_cons_zero, List.set_cons_succ]))
    (refine wpF_take (i := 8) ?_ (by kernel_rfl) (fun _ _ d _ _ h => by cases d <;> exact h) (by kernel_rfl) rfl (by kernel_rfl) (hdr') ?_ ?_; rotate_left; (· intro w' hS; go_simp; try with_reducible rfl); (try simp only [Act.put, List.setIfInBounds_toArray, List.set_cons_zero, List.set_cons_succ]))
    (refine wpF_take (i := 9) ?_ (by kernel_rfl) (fun _ _ d _ _ h => by cases d <;> exact h) (by kernel_rfl) rfl (by kernel_rfl) (hdr') ?_ ?_; rotate_left; (· intro w' hS; go_simp; try with_reducible rfl); (try simp only [Act.put, List.setIfInBounds_toArray, List.set_cons_zero, List.set_cons_succ]))
    (refine wpF_take (i := 10) ?_ (by kernel_rfl) (fun _ _ d _ _ h => by cases d <;> exact h) (by kernel_rfl) rfl (by kernel_rfl) (hdr') ?_ ?_; rotate_left; (· intro w' hS; have q1 := Fr.cell hS aq2 (by show ¬ (w.heap.size = w.heap.size + 1 + 1 + 1); omega); have q2 := Fr.cell hS bq1 (by show ¬ (w.heap.size + 1 = w.heap.size + 1 + 1 + 1); omega); have q3 := Fr.cell hS cq2 (by show ¬ (w.heap.size + 1 + 1 = w.heap.size + 1 + 1 + 1); omega); go_simp; try with_reducible rfl); (try simp only [Act.put, List.setIfInBounds_toArray, List.set_cons_zero, List.set_cons_succ]))
    (refine wpF_take (i := 11) ?_ (by kernel_rfl) (fun _ _ d _ _ h => by cases d <;> exact h) (by kernel_rfl) rfl (by kernel_rfl) (hdr') ?_ ?_; rotate_left; (· intro w' hS; go_simp; try with_reducible rfl); (try simp only [Act.put, List.setIfInBounds_toArray, List.set_cons_zero, List.set_cons_succ]))
    (refine wpF_take (i := 12) ?_ (by kernel_rfl) (fun _ _ d _ _ h => by cases d <;> exact h) (by kernel_rfl) rfl (by kernel_rfl) (hdr') ?_ ?_; rotate_left; (· intro w' hS; have q1 := Fr.cell hS aq2 (by show ¬ (w.heap.size = w.heap.size + 1 + 1 + 1); omega); have q2 := Fr.cell hS bq1 (by show ¬ (w.heap.size + 1 = w.heap.size + 1 + 1 + 1); omega); have q3 := Fr.cell hS cq2 (by show ¬ (w.heap.size + 1 + 1 = w.heap.size + 1 + 1 + 1); omega); go_simp; try with_reducible rfl); (try simp only [Act.put, List.setIfInBounds_toArray, List.set_cons_zero, List.set_cons_succ]))
    (refine wpF_take (i := 13) ?_ (by kernel_rfl) (fun _ _ d _ _ h => by cases d <;> exact h) (by kernel_rfl) rfl (by kernel_rfl) (hdr') ?_ ?_; rotate_left; (· intro w' hS; go_simp; try with_reducible rfl); (try simp only [Act.put, List.setIfInBounds_toArray, List.set_cons_zero, List.set_cons_succ]))
    (refine wpF_take (i := 14) ?_ (by kernel_rfl) (fun _ _ d _ _ h => by cases d <;> exact h) (by kernel_rfl) rfl (by kernel_rfl) (hdr') ?_ ?_; rotate_left; (· intro w' hS; go_simp; try with_reducible rfl); (try simp only [Act.put, List.setIfInBounds_toArray, List.set_cons_zero, List.set_cons_succ]))
    refine wpF_run (i := 15) (by kernel_rfl) rfl (by kernel_rfl) (fun K hK => ?_); go_simp
    refine (vS_any _ _).mono ?_
    rintro e w2 ⟨rfl, hf2⟩
    have hS2 := hdr.trans' hf2
    refine hK _ _ (hS2.mono fun _ _ h => h.elim) ?_
    clear hK K
    try simp only [Act.put, List.setIfInBounds_toArray, List.set_cons_zero, List.set_cons_succ]
    clear aq0 aq1 aq2 aq3 bq0 bq1 bq2 bq3 cq0 cq1 cq2 cq3
    have HZ := hid (hS2.heap HZ1.out not_false); have HF := hid (HF1.out.trans' hS2)
    obtain ⟨hR, hf5, z0, z1, z2, z3, zf⟩ := set4 HZ.out (.int .i64 2) (.int .i64 0) (.string (x.s.extract 0 (y.n.toNat - 1) ++ z.s ++ x.s.extract y.n.toNat x.s.size)) (.slice none 0 0)
    have HRR := hid hR
    have HF5 := hid (HF.out.trans hf5 (U := fun _ => False) (fun _ _ h => h) (fun q hq e => by omega))
    have hS5 := hS2.trans hf5 (U := fun q => q = w.heap.size + 1 + 1 + 1) (fun _ _ h => h.elim) (fun q hq e => e)
    clear hR hf5 hS2 hf2 hdr hdr'
    (refine wpF_run (i := 16) (by kernel_rfl) rfl (by kernel_rfl) (fun K hK => ?_); go_simp; refine hK _ _ (hS5) ?_; clear hK K; (try simp only [Act.put, List.setIfInBounds_toArray, List.set_cons_zero, List.set_cons_succ]))
    (refine wpF_run (i := 17) (by kernel_rfl) rfl (by kernel_rfl) (fun K hK => ?_); go_simp; refine hK _ _ (hS5) ?_; clear hK K; (try simp only [Act.put, List.setIfInBounds_toArray, List.set_cons_zero, List.set_cons_succ]))
    refine wpF_end (by kernel_rfl) ?_
    go_wp2_with fail
    refine bodyPost_ret (results_ct rfl _ _ (w.heap.size + 1 + 1 + 1) _ _ _ _ rfl HRR.out Try.underlying24 rfl (by kernel_rfl)) rfl ?_
    exact ⟨_, by rw [HP.out]; rfl, HF5.out, by rw [HP.out]; exact VS.inn _ _ _⟩
end Go.Proofs.Ytjngddmjgcecnaa
