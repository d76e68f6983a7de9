/- val.Clone. -/
import Derived.Test.YtebanmigaikhhaaValOwn
import Derived.Test.YtebanmigaikhhaaValSize
namespace Go.Proofs.Ytebanmigaikhhaa
open Go.RowKit

theorem len_le_sizeL : ∀ (l : List V), l.length ≤ sizeL l
  | [] => by simp [sizeL]
  | x :: r => by
    have := len_le_sizeL r
    have := V.size_eq x
    simp only [List.length_cons, sizeL]
    omega
theorem take_snoc' {α : Type} {l : List α} {k : Nat} {y : α} (h : l[k]? = some y) : l.take (k + 1) = l.take k ++ [y] := by
  rw [List.take_add_one, h]
  rfl

theorem Try.info_val : (Try.prog.info? 30).map (fun i => (i.zero, i.size, i.bytes)) = some (some (.agg #[.int .i64 0, .int .i64 0, .string ⟨#[]⟩, .slice none 0 0]), 4, 56) := by kernel_rfl

theorem own_base {w : World} {b b' e size n : Nat} {v : Value} {xs : List Value} (h : w.ownsRow b e size v n xs) (hb : b' ≤ b) : w.ownsRow b' e size v n xs := by
  refine ⟨h.1, h.2.imp id ?_⟩
  rintro ⟨g, cap, cur, h1, h2, r⟩
  exact ⟨g, cap, cur, h1, Nat.le_trans hb h2, r⟩

set_option maxHeartbeats 1600000 in
theorem vclone_any : ∀ (N : Nat) (x : V), x.size ≤ N → x.size ≤ 1099511627776 → ∀ (D : Nat → Prop) (w : World) (u : Array Value), VIn D w x u →
    Calls Try.prog 43 #[.agg u] w fun e w' => ∃ u', e = .returned (.agg u') ∧ Fr (fun _ => False) w w' ∧ VIn (fun b => w.heap.size ≤ b ∧ Soft w' b) w' x u' ∧ ∃ xs, w'.ownsRow w.heap.size 30 4 (u'.getD 3 undef) x.l.length xs := by
  intro N
  induction N with
  | zero =>
    intro x h
    rw [V.size_eq] at h
    omega
  | succ N ih =>
    intro x hN hM D w u h
    have hs := V.size_eq x
    have hll := len_le_sizeL x.l
    have hx : x = .mk x.k x.n x.s x.l := by cases x; rfl
    obtain ⟨v, rfl, a, cap, us, rfl, hc, hm, hn, hb, hi⟩ := h.open
    have hlm : x.l.length ≤ 1099511627776 := by omega
    generalize x.k = kk at *
    generalize x.n = nn at *
    generalize x.s = ss at *
    generalize x.l = l at *
    have HB := hid hb; have HI := hid hi; have HS := hid hs; have HM := hid hM; have HN := hid hN; have HX := hid hx
    clear hb hi hs hM hN h hn hll hx
    go_enter Try.func43, Try.ntmps43
    go_wp2
    have hb1 : ((w.alloc (.cells #[.int .i64 kk, .int .i64 nn, .string ss, .slice a l.length cap] 30)).alloc (.cells #[.int .i64 0, .int .i64 0, .string ⟨#[]⟩, .slice none 0 0] 30)).heap[w.heap.size]? = some (.cells #[.int .i64 kk, .int .i64 nn, .string ss, .slice a l.length cap] 30) := ((Fr.refl (fun _ => False) _).alloc _).heap (heap_alloc_new w _) not_false
    have hb2 : ((w.alloc (.cells #[.int .i64 kk, .int .i64 nn, .string ss, .slice a l.length cap] 30)).alloc (.cells #[.int .i64 0, .int .i64 0, .string ⟨#[]⟩, .slice none 0 0] 30)).heap[w.heap.size + 1]? = some (.cells #[.int .i64 0, .int .i64 0, .string ⟨#[]⟩, .slice none 0 0] 30) := by
      have := heap_alloc_new (w.alloc (.cells #[.int .i64 kk, .int .i64 nn, .string ss, .slice a l.length cap] 30)) (.cells #[.int .i64 0, .int .i64 0, .string ⟨#[]⟩, .slice none 0 0] 30)
      simpa using this
    have hF : Fr (fun _ => False) w ((w.alloc (.cells #[.int .i64 kk, .int .i64 nn, .string ss, .slice a l.length cap] 30)).alloc (.cells #[.int .i64 0, .int .i64 0, .string ⟨#[]⟩, .slice none 0 0] 30)) := ((Fr.refl _ _).alloc _).alloc _
    have hsz : ((w.alloc (.cells #[.int .i64 kk, .int .i64 nn, .string ss, .slice a l.length cap] 30)).alloc (.cells #[.int .i64 0, .int .i64 0, .string ⟨#[]⟩, .slice none 0 0] 30)).heap.size = w.heap.size + 2 := by simp
    generalize (w.alloc (.cells #[.int .i64 kk, .int .i64 nn, .string ss, .slice a l.length cap] 30)).alloc (.cells #[.int .i64 0, .int .i64 0, .string ⟨#[]⟩, .slice none 0 0] 30) = W at *
    have H1 := hid hb1; have H2 := hid hb2; have HF0 := hid hF; have HZ := hid hsz
    clear hb1 hb2 hF hsz
    go_loopw [3, 9] (fun v i wr => ∃ k : Nat, k ≤ l.length ∧ i = .int .i64 k ∧ VOwn 30 (w.heap.size + 2) wr (l.take k) v ∧ Fr (fun _ => False) W wr) (fun _ i _ => l.length - (intOf i).toNat)
    case atStart => exact ⟨0, Nat.zero_le _, rfl, by rw [List.take_zero]; exact VOwn.nil _ _ _, Fr.refl _ _⟩
    case round =>
      obtain ⟨k, hk, rfl, hO, hf⟩ := hrel
      by_cases hlt : k < l.length
      · obtain ⟨b, o, y, a', c', rfl, -, hy, hv, e0, e1, e2, e3⟩ := VL.elem HB.out HI.out k hlt
        have hf0 := HF0.out.trans' hf
        replace e0 := hf0.cell e0 not_false
        replace e1 := hf0.cell e1 not_false
        replace e2 := hf0.cell e2 not_false
        replace e3 := hf0.cell e3 not_false
        have hv2 := fun o' => hv.frame (hf0.alloc o') (fun _ _ => not_false)
        have t2 := sizeL_mem hy
        have t4 := take_snoc' hy
        have hy1 : y.size ≤ N := by have := HS.out; have := HN.out; omega
        have hy2 : y.size ≤ 1099511627776 := by have := HS.out; have := HM.out; omega
        have hc := ih y hy1 hy2 D
        have htl : (l.take k).length = k := by simp; omega
        clear hv t2 hy1 hy2 hy
        have HT := hid t4; have HFr := hid hf; have HV := hid hv2; have HC := hid hc; have HO := hid hO; have HL := hid htl
        clear t4 hf hv2 hc hO htl hf0
        go_wp2_with (fail)
        refine (HC.out _ _ (HV.out _)).mono ?_
        rintro e w2 ⟨u', rfl, hf2, hv', -⟩
        obtain ⟨v', rfl, a2, c2, us2, rfl, _⟩ := hv'.open
        have HF2 := hid ((Fr.refl (fun _ => False) wr).alloc _ |>.trans' hf2)
        have HV2 := hid hv'
        obtain ⟨xs, ho, hxs⟩ := HO.out
        have HW := hid ho
        have HXS := hid hxs
        clear hf2 hv' ho hxs
        have hF3 : Fr (fun _ => False) wr (w2.alloc (.cells #[.int .i64 y.k, .int .i64 y.n, .string y.s, .slice a2 y.l.length c2] 30)) := HF2.out.alloc _
        have hown := hF3.own HW.out (fun _ _ => id)
        have hn1 : (l.take k).length + 1 ≤ 1099511627776 := by rw [HL.out]; omega
        have hbs : w.heap.size + 2 ≤ (w2.alloc (.cells #[.int .i64 y.k, .int .i64 y.n, .string y.s, .slice a2 y.l.length c2] 30)).heap.size := by
          have := HZ.out; have := HFr.out.size; have := hF3.size; omega
        have HF3 := hid hF3; have HBS := hid hbs; have HN1 := hid hn1; have HOW := hid hown
        clear hF3 hown hbs hn1
        go_wp2_with (at_builtin; go_must (refine wpList_appendR rfl (.tmp 13) (.tmp 16) 22 rfl 30 (.agg #[.int .i64 0, .int .i64 0, .string ⟨#[]⟩, .slice none 0 0]) 4 56 Try.underlying22 Try.info_val rfl (by decide) _ rfl (w.heap.size + 2) (l.take k).length xs HOW.out w2.heap.size 1 [.int .i64 y.k, .int .i64 y.n, .string y.s, .slice a2 y.l.length c2] rfl rfl ?c1 ?c3 HN1.out (by decide) HBS.out ?_))
        case c1 => exact cells_new4 w2 #[.int .i64 y.k, .int .i64 y.n, .string y.s, .slice a2 y.l.length c2] _ _
        case c3 => intro q hq; simp at hq; rcases hq with rfl | rfl | rfl | rfl <;> rfl
        intro g cp w4 ho4 hf4 hn4
        have hO4 : VOwn 30 (w.heap.size + 2) w4 (l.take (k + 1)) (.slice (some ⟨g, 0, none⟩) (k + 1) cp) := by
          rw [HT.out]
          refine VOwn.snoc (u := #[.int .i64 y.k, .int .i64 y.n, .string y.s, .slice a2 y.l.length c2]) HOW.out (fun i x hi => ?_) (by rw [HL.out]; exact ho4) hf4 (fun q hq => ?_) ?_ rfl
          · obtain ⟨u, hu, r⟩ := HXS.out i x hi
            exact ⟨u, (hu.frame HF3.out fun _ _ => id).mono fun q _ hq => ⟨hq.1, Nat.lt_of_lt_of_le hq.2.1 HF3.out.size, hq.2.2.1, HF3.out.soft hq.2.1 id hq.2.2.2⟩, r⟩
          · simp only [Value.ownBlock, Option.some.injEq] at hq
            subst hq
            simpa using hn4
          · refine (HV2.out.soft ((Fr.refl (fun _ => False) w2).alloc _) fun _ _ => id).mono fun q hq hq2 => ⟨?_, hq, fun e => ?_, hq2.2⟩
            · have := HZ.out; have := HFr.out.size; have hq3 := hq2.1; simp at hq3; omega
            · have := (HW.out.lt q e).2; have hq3 := hq2.1; simp at hq3; omega
        have hf5 : Fr (fun _ => False) W w4 := (HFr.out.trans' HF3.out).trans hf4 (fun _ _ => id) (fun q hq e => by have h1 := (HW.out.lt q e.symm).1; have h2 := HZ.out; omega)
        clear ho4 hf4 hn4
        have HO4 := hid hO4; have HF5 := hid hf5
        clear hO4 hf5
        go_wp2
        go_roundw
        case rel => exact ⟨k + 1, by omega, by go_num, HO4.out, HF5.out⟩
        case measure => simp [intOf]; omega
      · have hkl : l.take k = l := List.take_of_length_le (by omega)
        rw [hkl] at hO
        have hVL := hO.close
        obtain ⟨xs, ho, _⟩ := hO
        obtain ⟨a9, c9, rfl, _⟩ := own_len ho
        have hb1 := hf.heap H1.out not_false
        have hb2 := hf.heap H2.out not_false
        clear hkl
        have HVL := hid hVL; have HFr := hid hf
        clear hVL hf
        have d0 : wr.cell? ⟨w.heap.size, 0, none⟩ = some (.int .i64 kk) := by rw [cell_of_row wr _ 0 _ _ _ hb1]; rfl
        have d1 : wr.cell? ⟨w.heap.size, 1, none⟩ = some (.int .i64 nn) := by rw [cell_of_row wr _ 1 _ _ _ hb1]; rfl
        have d2 : wr.cell? ⟨w.heap.size, 2, none⟩ = some (.string ss) := by rw [cell_of_row wr _ 2 _ _ _ hb1]; rfl
        have d3 : wr.cell? ⟨w.heap.size, 3, none⟩ = some (.slice a l.length cap) := by rw [cell_of_row wr _ 3 _ _ _ hb1]; rfl
        have e0 : wr.cell? ⟨w.heap.size + 1, 0, none⟩ = some (.int .i64 0) := by rw [cell_of_row wr _ 0 _ _ _ hb2]; rfl
        have e1 : wr.cell? ⟨w.heap.size + 1, 1, none⟩ = some (.int .i64 0) := by rw [cell_of_row wr _ 1 _ _ _ hb2]; rfl
        have e2 : wr.cell? ⟨w.heap.size + 1, 2, none⟩ = some (.string ⟨#[]⟩) := by rw [cell_of_row wr _ 2 _ _ _ hb2]; rfl
        have e3 : wr.cell? ⟨w.heap.size + 1, 3, none⟩ = some (.slice none 0 0) := by rw [cell_of_row wr _ 3 _ _ _ hb2]; rfl
        have F1 : ∀ i, wr.frozen? ⟨w.heap.size, i, none⟩ = false := fun i => frozen_of_row wr _ i _ _ hb1
        have F2 : ∀ i, wr.frozen? ⟨w.heap.size + 1, i, none⟩ = false := fun i => frozen_of_row wr _ i _ _ hb2
        have HB1 := hid hb1; have HB2 := hid hb2; have HO := hid ho
        clear hb1 hb2 ho
        go_wp2
        have hR := setCell_row 3 (.slice a9 l.length c9) (setCell_row 2 (.string ss) (setCell_row 1 (.int .i64 nn) (setCell_row 0 (.int .i64 kk) ((Below.heap_setCell wr ⟨w.heap.size, 3, none⟩ (.slice a9 l.length c9) (w.heap.size + 1) (by simp)).trans HB2.out))))
        simp only [List.setIfInBounds_toArray, List.set_cons_zero, List.set_cons_succ] at hR
        have hfw := HF0.out.trans' HFr.out
        have hf8 : Fr (fun q => q = w.heap.size ∨ q = w.heap.size + 1) wr (((((wr.setCell ⟨w.heap.size, 3, none⟩ (.slice a9 l.length c9)).setCell ⟨w.heap.size + 1, 0, none⟩ (.int .i64 kk)).setCell ⟨w.heap.size + 1, 1, none⟩ (.int .i64 nn)).setCell ⟨w.heap.size + 1, 2, none⟩ (.string ss)).setCell ⟨w.heap.size + 1, 3, none⟩ (.slice a9 l.length c9)) :=
          (((((Fr.refl _ _).setCell (.inl (.inl rfl)) _).setCell (.inl (.inr rfl)) _).setCell (.inl (.inr rfl)) _).setCell (.inl (.inr rfl)) _).setCell (.inl (.inr rfl)) _
        refine bodyPost_ret (results_cell_row rfl _ _ (w.heap.size + 1) _ _ _ _ rfl hR Try.underlying30 rfl (by kernel_rfl)) rfl ?_
        refine ⟨_, rfl, hfw.trans hf8 (fun _ _ => id) (fun q hq e => by omega), ?_⟩
        rw [HX.out]
        exact ⟨((HVL.out.close kk nn ss).soft hf8 (fun q hq e => by omega)).mono fun q _ hq => ⟨by omega, hq.2⟩, _, own_base (hf8.own HO.out (fun q hq e => by have := (HO.out.lt q hq).1; omega)) (by omega)⟩
end Go.Proofs.Ytebanmigaikhhaa
