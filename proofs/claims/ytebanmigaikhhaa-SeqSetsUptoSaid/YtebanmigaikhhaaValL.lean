/- val.L. -/
import Derived.Test.YtebanmigaikhhaaValClone
namespace Go.Proofs.Ytebanmigaikhhaa
open Go.RowKit

set_option maxHeartbeats 1600000 in
theorem vL_any (l : List V) (hM : sizeL l ≤ 1099511627776) (D : Nat → Prop) (w : World) (v : Value) (h : VL D w l v) :
    Calls Try.prog 34 #[v] w fun e w' => ∃ u', e = .returned (.agg u') ∧ Fr (fun _ => False) w w' ∧ VIn (fun b => w.heap.size ≤ b ∧ Soft w' b) w' (.mk 4 0 ⟨#[]⟩ l) u' ∧ ∃ xs, w'.ownsRow w.heap.size 30 4 (u'.getD 3 undef) l.length xs := by
  have hll := len_le_sizeL l
  obtain ⟨a, cap, us, rfl, hc, hm, hn, hb, hi⟩ := h
  have hlm : l.length ≤ 1099511627776 := by omega
  have HB := hid hb; have HI := hid hi; have HM := hid hM
  clear hb hi hM hn hll
  go_enter Try.func34, Try.ntmps34
  go_wp2
  have hb2 : (w.alloc (.cells #[.int .i64 0, .int .i64 0, .string ⟨#[]⟩, .slice none 0 0] 30)).heap[w.heap.size]? = some (.cells #[.int .i64 0, .int .i64 0, .string ⟨#[]⟩, .slice none 0 0] 30) := heap_alloc_new w _
  have hF : Fr (fun _ => False) w (w.alloc (.cells #[.int .i64 0, .int .i64 0, .string ⟨#[]⟩, .slice none 0 0] 30)) := (Fr.refl _ _).alloc _
  have hsz : (w.alloc (.cells #[.int .i64 0, .int .i64 0, .string ⟨#[]⟩, .slice none 0 0] 30)).heap.size = w.heap.size + 1 := by simp
  generalize w.alloc (.cells #[.int .i64 0, .int .i64 0, .string ⟨#[]⟩, .slice none 0 0] 30) = W at *
  have H2 := hid hb2; have HF0 := hid hF; have HZ := hid hsz
  clear hb2 hF hsz
  go_loopw [3, 8] (fun v i wr => ∃ k : Nat, k ≤ l.length ∧ i = .int .i64 k ∧ VOwn 30 (w.heap.size + 1) wr (l.take k) v ∧ Fr (fun _ => False) W wr) (fun _ i _ => l.length - (intOf i).toNat)
  case atStart => exact ⟨0, Nat.zero_le _, rfl, by rw [List.take_zero]; exact VOwn.nil _ _ _, Fr.refl _ _⟩
  case round =>
    obtain ⟨k, hk, rfl, hO, hf⟩ := hrel
    by_cases hlt : k < l.length
    · obtain ⟨b, o, y, a', c', rfl, -, hy, hv, e0, e1, e2, e3⟩ := VL.elem HB.out HI.out k hlt
      have hf0 := HF0.out.trans' hf
      replace e0 := hf0.cell e0 not_false
      replace e1 := hf0.cell e1 not_false
      replace e2 := hf0.cell e2 not_false
      replace e3 := hf0.cell e3 not_false
      have hv2 := fun o' => hv.frame (hf0.alloc o') (fun _ _ => not_false)
      have t2 := sizeL_mem hy
      have t4 := take_snoc' hy
      have hy2 : y.size ≤ 1099511627776 := by have := HM.out; omega
      have hc := vclone_any y.size y (Nat.le_refl _) hy2 D
      have htl : (l.take k).length = k := by simp; omega
      clear hv t2 hy2 hy
      have HT := hid t4; have HFr := hid hf; have HV := hid hv2; have HC := hid hc; have HO := hid hO; have HL := hid htl
      clear t4 hf hv2 hc hO htl hf0
      go_wp2_with (fail)
      refine (HC.out _ _ (HV.out _)).mono ?_
      rintro e w2 ⟨u', rfl, hf2, hv', -⟩
      obtain ⟨v', rfl, a2, c2, us2, rfl, _⟩ := hv'.open
      have HF2 := hid ((Fr.refl (fun _ => False) wr).alloc _ |>.trans' hf2)
      have HV2 := hid hv'
      obtain ⟨xs, ho, hxs⟩ := HO.out
      have HW := hid ho
      have HXS := hid hxs
      clear hf2 hv' ho hxs
      have hF3 : Fr (fun _ => False) wr (w2.alloc (.cells #[.int .i64 y.k, .int .i64 y.n, .string y.s, .slice a2 y.l.length c2] 30)) := HF2.out.alloc _
      have hown := hF3.own HW.out (fun _ _ => id)
      have hn1 : (l.take k).length + 1 ≤ 1099511627776 := by rw [HL.out]; omega
      have hbs : w.heap.size + 1 ≤ (w2.alloc (.cells #[.int .i64 y.k, .int .i64 y.n, .string y.s, .slice a2 y.l.length c2] 30)).heap.size := by
        have := HZ.out; have := HFr.out.size; have := hF3.size; omega
      have HF3 := hid hF3; have HBS := hid hbs; have HN1 := hid hn1; have HOW := hid hown
      clear hF3 hown hbs hn1
      go_wp2_with (at_builtin; go_must (refine wpList_appendR rfl (.tmp 12) (.tmp 15) 22 rfl 30 (.agg #[.int .i64 0, .int .i64 0, .string ⟨#[]⟩, .slice none 0 0]) 4 56 Try.underlying22 Try.info_val rfl (by decide) _ rfl (w.heap.size + 1) (l.take k).length xs HOW.out w2.heap.size 1 [.int .i64 y.k, .int .i64 y.n, .string y.s, .slice a2 y.l.length c2] rfl rfl ?c1 ?c3 HN1.out (by decide) HBS.out ?_))
      case c1 => exact cells_new4 w2 #[.int .i64 y.k, .int .i64 y.n, .string y.s, .slice a2 y.l.length c2] _ _
      case c3 => intro q hq; simp at hq; rcases hq with rfl | rfl | rfl | rfl <;> rfl
      intro g cp w4 ho4 hf4 hn4
      have hO4 : VOwn 30 (w.heap.size + 1) w4 (l.take (k + 1)) (.slice (some ⟨g, 0, none⟩) (k + 1) cp) := by
        rw [HT.out]
        refine VOwn.snoc (u := #[.int .i64 y.k, .int .i64 y.n, .string y.s, .slice a2 y.l.length c2]) HOW.out (fun i x hi => ?_) (by rw [HL.out]; exact ho4) hf4 (fun q hq => ?_) ?_ rfl
        · obtain ⟨u, hu, r⟩ := HXS.out i x hi
          exact ⟨u, (hu.frame HF3.out fun _ _ => id).mono fun q _ hq => ⟨hq.1, Nat.lt_of_lt_of_le hq.2.1 HF3.out.size, hq.2.2.1, HF3.out.soft hq.2.1 id hq.2.2.2⟩, r⟩
        · simp only [Value.ownBlock, Option.some.injEq] at hq
          subst hq
          simpa using hn4
        · refine (HV2.out.soft ((Fr.refl (fun _ => False) w2).alloc _) fun _ _ => id).mono fun q hq hq2 => ⟨?_, hq, fun e => ?_, hq2.2⟩
          · have := HZ.out; have := HFr.out.size; have hq3 := hq2.1; simp at hq3; omega
          · have := (HW.out.lt q e).2; have hq3 := hq2.1; simp at hq3; omega
      have hf5 : Fr (fun _ => False) W w4 := (HFr.out.trans' HF3.out).trans hf4 (fun _ _ => id) (fun q hq e => by have h1 := (HW.out.lt q e.symm).1; have h2 := HZ.out; omega)
      clear ho4 hf4 hn4
      have HO4 := hid hO4; have HF5 := hid hf5
      clear hO4 hf5
      go_wp2
      go_roundw
      case rel => exact ⟨k + 1, by omega, by go_num, HO4.out, HF5.out⟩
      case measure => simp [intOf]; omega
    · have hkl : l.take k = l := List.take_of_length_le (by omega)
      rw [hkl] at hO
      have hVL := hO.close
      obtain ⟨xs, ho, _⟩ := hO
      obtain ⟨a9, c9, rfl, _⟩ := own_len ho
      have hb2 := hf.heap H2.out not_false
      clear hkl
      have HVL := hid hVL; have HFr := hid hf
      clear hVL hf
      have e0 : wr.cell? ⟨w.heap.size, 0, none⟩ = some (.int .i64 0) := by rw [cell_of_row wr _ 0 _ _ _ hb2]; rfl
      have e1 : wr.cell? ⟨w.heap.size, 1, none⟩ = some (.int .i64 0) := by rw [cell_of_row wr _ 1 _ _ _ hb2]; rfl
      have e2 : wr.cell? ⟨w.heap.size, 2, none⟩ = some (.string ⟨#[]⟩) := by rw [cell_of_row wr _ 2 _ _ _ hb2]; rfl
      have e3 : wr.cell? ⟨w.heap.size, 3, none⟩ = some (.slice none 0 0) := by rw [cell_of_row wr _ 3 _ _ _ hb2]; rfl
      have F2 : ∀ i, wr.frozen? ⟨w.heap.size, i, none⟩ = false := fun i => frozen_of_row wr _ i _ _ hb2
      have HB2 := hid hb2; have HO := hid ho
      clear hb2 ho
      go_wp2
      have hR := setCell_row 3 (.slice a9 l.length c9) (setCell_row 2 (.string ⟨#[]⟩) (setCell_row 1 (.int .i64 0) (setCell_row 0 (.int .i64 4) HB2.out)))
      simp only [List.setIfInBounds_toArray, List.set_cons_zero, List.set_cons_succ] at hR
      have hfw := HF0.out.trans' HFr.out
      have hf8 : Fr (fun q => q = w.heap.size) wr ((((wr.setCell ⟨w.heap.size, 0, none⟩ (.int .i64 4)).setCell ⟨w.heap.size, 1, none⟩ (.int .i64 0)).setCell ⟨w.heap.size, 2, none⟩ (.string ⟨#[]⟩)).setCell ⟨w.heap.size, 3, none⟩ (.slice a9 l.length c9)) :=
        ((((Fr.refl (fun q => q = w.heap.size) wr).setCell (p := ⟨w.heap.size, 0, none⟩) (.inl rfl) _).setCell (p := ⟨w.heap.size, 1, none⟩) (.inl rfl) _).setCell (p := ⟨w.heap.size, 2, none⟩) (.inl rfl) _).setCell (p := ⟨w.heap.size, 3, none⟩) (.inl rfl) _
      refine bodyPost_ret (results_cell_row rfl _ _ w.heap.size _ _ _ _ rfl hR Try.underlying30 rfl (by kernel_rfl)) rfl ?_
      refine ⟨_, rfl, hfw.trans hf8 (fun _ _ => id) (fun q hq e => by omega), ?_⟩
      exact ⟨((HVL.out.close 4 0 ⟨#[]⟩).soft hf8 (fun q hq e => by omega)).mono fun q _ hq => ⟨by omega, hq.2⟩, _, own_base (hf8.own HO.out (fun q hq e => by have := (HO.out.lt q hq).1; omega)) (by omega)⟩
end Go.Proofs.Ytebanmigaikhhaa
