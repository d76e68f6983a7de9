/- inglenookref.Value, Values: copies in new memory. -/
import Derived.Test.YteihmagldhmjgaaDoorValClone
namespace Go.Proofs.YteihmagldhmjgaaDoor
open Go.RowKit

set_option maxHeartbeats 1600000 in
theorem rvaluesO_of (N : Nat) (ih : ∀ (x : V), x.size ≤ N → x.size ≤ 1099511627776 → ∀ (D : Nat → Prop) (w : World) (u : Array Value), VIn D w x u →
      Calls Tryd.prog 58 #[.agg u] w fun e w' => ∃ u', e = .returned (.agg u') ∧ Fr (fun _ => False) w w' ∧ VIn (fun b => w.heap.size ≤ b ∧ Soft w' b) w' x u')
    (l : List V) (hl : sizeL l ≤ N) (hM : sizeL l ≤ 1099511627776) (D : Nat → Prop) (w : World) (v : Value) (h : VL D w l v) :
    Calls Tryd.prog 74 #[v] w fun e w' => ∃ v', e = .returned v' ∧ Fr (fun _ => False) w w' ∧ VOwn 26 w.heap.size w' l v' := by
  have hll := len_le_sizeL l
  obtain ⟨a, cap, us, rfl, hc, hm, hn, hb, hi⟩ := h
  have hlm : l.length ≤ 1099511627776 := by omega
  have HB := hid hb; have HI := hid hi; have HM := hid hM; have HN := hid hl
  clear hb hi hM hn hll hl
  by_cases h0 : l.length = 0
  · have hl0 := List.eq_nil_of_length_eq_zero h0
    subst hl0
    go_enter Tryd.func74, Tryd.ntmps74
    go_wp2
    go_ret
    exact ⟨_, rfl, Fr.refl _ _, VOwn.nil _ _ _⟩
  · have q0 : ((l.length : Int) == 0) = false := by
      rw [beq_eq_false_iff_ne]
      omega
    obtain ⟨ii, i1, i2, i3, i4⟩ := info_parts Tryd.info_val
    go_enter Tryd.func74, Tryd.ntmps74
    go_wp2_with (at_make; refine wpList_make_own _ rfl _ _ 24 rfl w.heap.size 26 ii (.agg #[.int .i64 0, .int .i64 0, .string ⟨#[]⟩, .slice none 0 0]) 4 Tryd.underlying24 i1 i2 i3 .i64 .i64 _ l.length rfl rfl rfl (by rw [i4]; omega) (by unfold maxLen; omega) (Nat.le_refl _) ?_; intro W hown0 hgrow0)
    have hF := Fr.of_grownBy hgrow0
    have hF0 : Fr (fun _ => False) w W := hF.mono (fun _ _ e => by cases e)
    have hO0 : VOwn 26 w.heap.size W [] (.slice (some ⟨w.heap.size, 0, none⟩) 0 l.length) := ⟨[], hown0, fun i x h => by simp at h⟩
    clear hF hown0 hgrow0 i1 i2 i3 i4 q0
    have HF0 := hid hF0; have HO0 := hid hO0
    clear hF0 hO0
    go_loopw [3, 4] (fun v i wr => ∃ k : Nat, k ≤ l.length ∧ i = .int .i64 k ∧ VOwn 26 w.heap.size wr (l.take k) v ∧ Fr (fun _ => False) w wr) (fun _ i _ => l.length - (intOf i).toNat)
    case atStart => exact ⟨0, Nat.zero_le _, rfl, by rw [List.take_zero]; exact HO0.out, HF0.out⟩
    case round =>
      obtain ⟨k, hk, rfl, hO, hf⟩ := hrel
      by_cases hlt : k < l.length
      · obtain ⟨b, o, y, a', c', rfl, -, hy, hv, e0, e1, e2, e3⟩ := VL.elem HB.out HI.out k hlt
        replace e0 := hf.cell e0 not_false
        replace e1 := hf.cell e1 not_false
        replace e2 := hf.cell e2 not_false
        replace e3 := hf.cell e3 not_false
        have hv2 := hv.frame hf (fun _ _ => not_false)
        have t2 := sizeL_mem hy
        have t4 := take_snoc' hy
        have hy1 : y.size ≤ N := by have := HN.out; omega
        have hy2 : y.size ≤ 1099511627776 := by have := HM.out; omega
        have hc := ih y hy1 hy2 D
        have htl : (l.take k).length = k := by simp; omega
        clear hv t2 hy1 hy2 hy
        have HT := hid t4; have HFr := hid hf; have HV := hid hv2; have HC := hid hc; have HO := hid hO; have HL := hid htl
        clear t4 hf hv2 hc hO htl
        go_wp2_with (fail)
        refine (HC.out _ _ HV.out).mono ?_
        rintro e w2 ⟨u', rfl, hf2, hv'⟩
        obtain ⟨v', rfl, a2, c2, us2, rfl, _⟩ := hv'.open
        have HF2 := hid hf2
        have HV2 := hid hv'
        obtain ⟨xs, ho, hxs⟩ := HO.out
        have HW := hid ho
        have HXS := hid hxs
        clear hf2 hv' ho hxs
        have hF3 : Fr (fun _ => False) wr (w2.alloc (.cells #[.int .i64 y.k, .int .i64 y.n, .string y.s, .slice a2 y.l.length c2] 26)) := HF2.out.alloc _
        have hown := hF3.own HW.out (fun _ _ => id)
        have hn1 : (l.take k).length + 1 ≤ 1099511627776 := by rw [HL.out]; omega
        have hbs : w.heap.size ≤ (w2.alloc (.cells #[.int .i64 y.k, .int .i64 y.n, .string y.s, .slice a2 y.l.length c2] 26)).heap.size := by
          have := HFr.out.size; have := hF3.size; omega
        have HF3 := hid hF3; have HBS := hid hbs; have HN1 := hid hn1; have HOW := hid hown
        clear hF3 hown hbs hn1
        go_wp2_with (at_builtin; go_must (refine wpList_appendR rfl (.tmp 17) (.tmp 23) 24 rfl 26 (.agg #[.int .i64 0, .int .i64 0, .string ⟨#[]⟩, .slice none 0 0]) 4 56 Tryd.underlying24 Tryd.info_val rfl (by decide) _ rfl w.heap.size (l.take k).length xs HOW.out w2.heap.size 1 [.int .i64 y.k, .int .i64 y.n, .string y.s, .slice a2 y.l.length c2] rfl rfl ?c1 ?c3 HN1.out (by decide) HBS.out ?_))
        case c1 => exact cells_new4 w2 #[.int .i64 y.k, .int .i64 y.n, .string y.s, .slice a2 y.l.length c2] _ _
        case c3 => intro q hq; simp at hq; rcases hq with rfl | rfl | rfl | rfl <;> rfl
        intro g cp w4 ho4 hf4 hn4
        have hO4 : VOwn 26 w.heap.size w4 (l.take (k + 1)) (.slice (some ⟨g, 0, none⟩) (k + 1) cp) := by
          rw [HT.out]
          refine VOwn.snoc (u := #[.int .i64 y.k, .int .i64 y.n, .string y.s, .slice a2 y.l.length c2]) HOW.out (fun i x hi => ?_) (by rw [HL.out]; exact ho4) hf4 (fun q hq => ?_) ?_ rfl
          · obtain ⟨u, hu, r⟩ := HXS.out i x hi
            exact ⟨u, (hu.frame HF3.out fun _ _ => id).mono fun q _ hq => ⟨hq.1, Nat.lt_of_lt_of_le hq.2.1 HF3.out.size, hq.2.2.1, HF3.out.soft hq.2.1 id hq.2.2.2⟩, r⟩
          · simp only [Value.ownBlock, Option.some.injEq] at hq
            subst hq
            simpa using hn4
          · refine (HV2.out.soft ((Fr.refl (fun _ => False) w2).alloc _) fun _ _ => id).mono fun q hq hq2 => ⟨?_, hq, fun e => ?_, hq2.2⟩
            · have := HFr.out.size; have hq4 : wr.heap.size ≤ q := hq2.1; omega
            · have := (HW.out.lt q e).2; have hq4 : wr.heap.size ≤ q := hq2.1; omega
        have hf5 : Fr (fun _ => False) w w4 := (HFr.out.trans' HF3.out).trans hf4 (fun _ _ => id) (fun q hq e => by have h1 := (HW.out.lt q e.symm).1; omega)
        clear ho4 hf4 hn4
        have HO4 := hid hO4; have HF5 := hid hf5
        clear hO4 hf5
        go_wp2
        go_roundw
        case rel => exact ⟨k + 1, by omega, by go_num, HO4.out, HF5.out⟩
        case measure => simp [intOf]; omega
      · have hkl : l.take k = l := List.take_of_length_le (by omega)
        rw [hkl] at hO
        have HVL := hid hO; have HFr := hid hf
        clear hkl hO hf
        go_wp2
        go_ret
        exact ⟨_, rfl, HFr.out, HVL.out⟩

theorem rvalues_of (N : Nat) (ih : ∀ (x : V), x.size ≤ N → x.size ≤ 1099511627776 → ∀ (D : Nat → Prop) (w : World) (u : Array Value), VIn D w x u →
      Calls Tryd.prog 58 #[.agg u] w fun e w' => ∃ u', e = .returned (.agg u') ∧ Fr (fun _ => False) w w' ∧ VIn (fun b => w.heap.size ≤ b ∧ Soft w' b) w' x u')
    (l : List V) (hl : sizeL l ≤ N) (hM : sizeL l ≤ 1099511627776) (D : Nat → Prop) (w : World) (v : Value) (h : VL D w l v) :
    Calls Tryd.prog 74 #[v] w fun e w' => ∃ v', e = .returned v' ∧ Fr (fun _ => False) w w' ∧ VL (fun b => w.heap.size ≤ b ∧ Soft w' b) w' l v' :=
  (rvaluesO_of N ih l hl hM D w v h).mono fun _ _ ⟨v', a, b, c⟩ => ⟨v', a, b, c.close⟩

set_option maxHeartbeats 1600000 in
theorem rvalue_any : ∀ (N : Nat) (x : V), x.size ≤ N → x.size ≤ 1099511627776 → ∀ (D : Nat → Prop) (w : World) (u : Array Value), VIn D w x u →
    Calls Tryd.prog 58 #[.agg u] w fun e w' => ∃ u', e = .returned (.agg u') ∧ Fr (fun _ => False) w w' ∧ VIn (fun b => w.heap.size ≤ b ∧ Soft w' b) w' x u' := by
  intro N
  induction N with
  | zero =>
    intro x h
    rw [V.size_eq] at h
    omega
  | succ N ih =>
    intro x hN hM D w u h
    have hs := V.size_eq x
    have hx : x = .mk x.k x.n x.s x.l := by cases x; rfl
    obtain ⟨v, rfl, hL⟩ := h.open
    have hcall := rvalues_of N ih x.l (by omega) (by omega) D
    obtain ⟨a, cap, us, rfl, -⟩ := id hL
    generalize x.k = kk at *
    generalize x.n = nn at *
    generalize x.s = ss at *
    generalize x.l = l at *
    have HL := hid hL; have HC := hid hcall; have HX := hid hx
    clear hL hcall hs hN hM h hx
    go_enter Tryd.func58, Tryd.ntmps58
    go_upto_region 1 with fail
    have hb1 : ((w.alloc (.cells #[.int .i64 kk, .int .i64 nn, .string ss, .slice a l.length cap] 26)).alloc (.cells #[.int .i64 0, .int .i64 0, .string ⟨#[]⟩, .slice none 0 0] 26)).heap[w.heap.size]? = some (.cells #[.int .i64 kk, .int .i64 nn, .string ss, .slice a l.length cap] 26) := ((Fr.refl (fun _ => False) _).alloc _).heap (heap_alloc_new w _) not_false
    have hb2 : ((w.alloc (.cells #[.int .i64 kk, .int .i64 nn, .string ss, .slice a l.length cap] 26)).alloc (.cells #[.int .i64 0, .int .i64 0, .string ⟨#[]⟩, .slice none 0 0] 26)).heap[w.heap.size + 1]? = some (.cells #[.int .i64 0, .int .i64 0, .string ⟨#[]⟩, .slice none 0 0] 26) := by
      have := heap_alloc_new (w.alloc (.cells #[.int .i64 kk, .int .i64 nn, .string ss, .slice a l.length cap] 26)) (.cells #[.int .i64 0, .int .i64 0, .string ⟨#[]⟩, .slice none 0 0] 26)
      simpa using this
    have hF : Fr (fun _ => False) w ((w.alloc (.cells #[.int .i64 kk, .int .i64 nn, .string ss, .slice a l.length cap] 26)).alloc (.cells #[.int .i64 0, .int .i64 0, .string ⟨#[]⟩, .slice none 0 0] 26)) := ((Fr.refl _ _).alloc _).alloc _
    have hsz : ((w.alloc (.cells #[.int .i64 kk, .int .i64 nn, .string ss, .slice a l.length cap] 26)).alloc (.cells #[.int .i64 0, .int .i64 0, .string ⟨#[]⟩, .slice none 0 0] 26)).heap.size = w.heap.size + 2 := by simp
    generalize (w.alloc (.cells #[.int .i64 kk, .int .i64 nn, .string ss, .slice a l.length cap] 26)).alloc (.cells #[.int .i64 0, .int .i64 0, .string ⟨#[]⟩, .slice none 0 0] 26) = W at *
    have c0 : W.cell? ⟨w.heap.size, 0, none⟩ = some (.int .i64 kk) := by rw [cell_of_row W _ 0 _ _ _ hb1]; rfl
    have c1 : W.cell? ⟨w.heap.size, 1, none⟩ = some (.int .i64 nn) := by rw [cell_of_row W _ 1 _ _ _ hb1]; rfl
    have c2 : W.cell? ⟨w.heap.size, 2, none⟩ = some (.string ss) := by rw [cell_of_row W _ 2 _ _ _ hb1]; rfl
    have c3 : W.cell? ⟨w.heap.size, 3, none⟩ = some (.slice a l.length cap) := by rw [cell_of_row W _ 3 _ _ _ hb1]; rfl
    have H2 := hid hb2; have HF := hid hF; have HZ := hid hsz
    clear hb1 hb2 hF hsz
    refine wp_region_ord [(0, 0), (1, 0), (2, 0), (3, 0), (4, 0), (5, 0), (6, 0), (7, 0), (8, 1), (9, 1), (10, 1)] (fun w' => w'.cell? ⟨w.heap.size, 0, none⟩ = some (.int .i64 kk) ∧ w'.cell? ⟨w.heap.size, 1, none⟩ = some (.int .i64 nn) ∧ w'.cell? ⟨w.heap.size, 2, none⟩ = some (.string ss) ∧ w'.cell? ⟨w.heap.size, 3, none⟩ = some (.slice a l.length cap)) (by kernel_rfl) (by kernel_rfl) (by kernel_rfl) rfl (fun _ _ d _ _ h => by cases d <;> exact h) ⟨c0, c1, c2, c3⟩ ?_
    iterate 8 (refine wpO_take ?_ rfl (by kernel_rfl) ?_ ?_; rotate_left; (· intro w' hS; go_simp; try with_reducible rfl); try simp only [Act.put, List.setIfInBounds_toArray, List.set_cons_zero, List.set_cons_succ])
    refine wpO_run rfl (by kernel_rfl) (fun K hK => ?_); go_simp
    refine (HC.out W.drew _ (HL.out.frame HF.out.drew fun _ _ => id)).mono ?_
    rintro e w2 ⟨v', rfl, hf2, hv'⟩
    obtain ⟨a9, c9, us9, rfl, hv9⟩ := id hv'
    clear hv9
    have k0 : w2.cell? ⟨w.heap.size, 0, none⟩ = some (.int .i64 kk) := hf2.cell c0 not_false
    have k1 : w2.cell? ⟨w.heap.size, 1, none⟩ = some (.int .i64 nn) := hf2.cell c1 not_false
    have k2 : w2.cell? ⟨w.heap.size, 2, none⟩ = some (.string ss) := hf2.cell c2 not_false
    have k3 : w2.cell? ⟨w.heap.size, 3, none⟩ = some (.slice a l.length cap) := hf2.cell c3 not_false
    have hb2 : w2.heap[w.heap.size + 1]? = some (.cells #[.int .i64 0, .int .i64 0, .string ⟨#[]⟩, .slice none 0 0] 26) := hf2.heap H2.out not_false
    have e0 : w2.cell? ⟨w.heap.size + 1, 0, none⟩ = some (.int .i64 0) := by rw [cell_of_row w2 _ 0 _ _ _ hb2]; rfl
    have e1 : w2.cell? ⟨w.heap.size + 1, 1, none⟩ = some (.int .i64 0) := by rw [cell_of_row w2 _ 1 _ _ _ hb2]; rfl
    have e2 : w2.cell? ⟨w.heap.size + 1, 2, none⟩ = some (.string ⟨#[]⟩) := by rw [cell_of_row w2 _ 2 _ _ _ hb2]; rfl
    have e3 : w2.cell? ⟨w.heap.size + 1, 3, none⟩ = some (.slice none 0 0) := by rw [cell_of_row w2 _ 3 _ _ _ hb2]; rfl
    have F2 : ∀ i, w2.frozen? ⟨w.heap.size + 1, i, none⟩ = false := fun i => frozen_of_row w2 _ i _ _ hb2
    have hfw : Fr (fun _ => False) w w2 := HF.out.drew.trans' hf2
    have HB2 := hid hb2; have HV := hid hv'; have HW := hid hfw; have HSZ := hid hf2.size
    clear hb2 hv' hfw hf2 c0 c1 c2 c3
    refine hK _ _ (fun _ => ⟨k0, k1, k2, k3⟩) ?_
    clear hK K
    try simp only [Act.put, List.setIfInBounds_toArray, List.set_cons_zero, List.set_cons_succ]
    (refine wpO_run rfl (by kernel_rfl) (fun K hK => ?_); go_simp; refine hK _ _ (fun _ => ⟨k0, k1, k2, k3⟩) ?_; clear hK K; try simp only [Act.put, List.setIfInBounds_toArray, List.set_cons_zero, List.set_cons_succ])
    refine wpO_run rfl (by kernel_rfl) (fun K hK => ?_)
    go_simp
    refine hK _ _ (last_skip (by kernel_rfl)) ?_
    clear hK K
    try simp only [Act.put, List.setIfInBounds_toArray, List.set_cons_zero, List.set_cons_succ]
    refine wpO_end ?_
    go_wp2
    have hR := setCell_row 3 (.slice a9 l.length c9) (setCell_row 2 (.string ss) (setCell_row 1 (.int .i64 nn) (setCell_row 0 (.int .i64 kk) HB2.out)))
    simp only [List.setIfInBounds_toArray, List.set_cons_zero, List.set_cons_succ] at hR
    have hf8 : Fr (fun q => q = w.heap.size + 1) w2 ((((w2.setCell ⟨w.heap.size + 1, 0, none⟩ (.int .i64 kk)).setCell ⟨w.heap.size + 1, 1, none⟩ (.int .i64 nn)).setCell ⟨w.heap.size + 1, 2, none⟩ (.string ss)).setCell ⟨w.heap.size + 1, 3, none⟩ (.slice a9 l.length c9)) :=
      ((((Fr.refl (fun q => q = w.heap.size + 1) w2).setCell (p := ⟨w.heap.size + 1, 0, none⟩) (.inl rfl) _).setCell (p := ⟨w.heap.size + 1, 1, none⟩) (.inl rfl) _).setCell (p := ⟨w.heap.size + 1, 2, none⟩) (.inl rfl) _).setCell (p := ⟨w.heap.size + 1, 3, none⟩) (.inl rfl) _
    refine bodyPost_ret (results_cell_row rfl _ _ (w.heap.size + 1) _ _ _ _ rfl hR Tryd.underlying26 rfl (by kernel_rfl)) rfl ?_
    refine ⟨_, rfl, HW.out.trans hf8 (fun _ _ => id) (fun q hq e => by omega), ?_⟩
    rw [HX.out]
    exact ((HV.out.close kk nn ss).soft hf8 (fun q hq e => by have h1 : W.heap.size ≤ q := hq; have := HZ.out; omega)).mono fun q _ hq => ⟨by have h1 : W.heap.size ≤ q := hq.1; have := HZ.out; omega, hq.2⟩
theorem VOwn.vc {e base : Nat} {w : World} {l : List V} {v : Value} (h : VOwn e base w l v) : ∃ us, w.ownsRow base e 4 v l.length us ∧ us.length = l.length * 4 ∧ ∀ i x, l[i]? = some x → ∃ u, VIn (fun b => base ≤ b ∧ b < w.heap.size ∧ v.ownBlock ≠ some b) w x u ∧ u.size = 4 ∧ ∀ j, j < 4 → us[i * 4 + j]? = u[j]? := by
  obtain ⟨us, ho, hx⟩ := h
  refine ⟨us, ho, ho.1, fun i x hi => ?_⟩
  obtain ⟨u, a, b, c⟩ := hx i x hi
  exact ⟨u, a.mono fun k _ hk => ⟨hk.1, hk.2.1, hk.2.2.1⟩, b, c⟩
end Go.Proofs.YteihmagldhmjgaaDoor
