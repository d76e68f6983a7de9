/- inglenookref.Node, Nodes: copies in new memory. -/
import Derived.Test.YteihmagldhmjgaaDoorTreeF
import Derived.Test.YteihmagldhmjgaaDoorNodOwn
import Derived.Test.YteihmagldhmjgaaDoorRefValue
import Derived.Test.YteihmagldhmjgaaDoorRegion
namespace Go.Proofs.YteihmagldhmjgaaDoor
open Go.RowKit

theorem VL.softL {B : Nat → Prop} {S : Nat → Prop} {w w' : World} {l : List V} {v : Value} (h : VL (fun b => B b ∧ Soft w b) w l v) (hf : Fr S w w') (hS : ∀ k, B k → ¬ S k) : VL (fun b => B b ∧ Soft w' b) w' l v := by
  have := ((h.close 0 0 ⟨#[]⟩).soft hf hS).open
  obtain ⟨v', e, h'⟩ := this
  simp at e
  obtain ⟨-, -, -, rfl⟩ := e
  exact h'
theorem Tryd.info_nd8 : (Tryd.prog.info? 29).map (fun i => (i.zero, i.size, i.bytes)) = some (some (.agg #[.int .i64 0, .int .i64 0, .string ⟨#[]⟩, .int .i64 0, .int .i64 0, .string ⟨#[]⟩, .slice none 0 0, .slice none 0 0]), 8, 112) := by kernel_rfl
set_option maxHeartbeats 1600000 in
theorem nnodesO_of (N : Nat) (ih : ∀ (x : Nd), x.sz ≤ N → x.sz ≤ 1099511627776 → ∀ (D : Nat → Prop) (w : World) (u : Array Value), NIn D w x u →
      Calls Tryd.prog 40 #[.agg u] w fun e w' => ∃ u', e = .returned (.agg u') ∧ Fr (fun _ => False) w w' ∧ NIn (fun b => w.heap.size ≤ b ∧ Soft w' b) w' x u')
    (l : List Nd) (hl : szL l ≤ N) (hM : szL l ≤ 1099511627776) (D : Nat → Prop) (w : World) (v : Value) (h : NL D w l v) :
    Calls Tryd.prog 15 #[v] w fun e w' => ∃ v', e = .returned v' ∧ Fr (fun _ => False) w w' ∧ NOwn 29 w.heap.size w' l v' := by
  have hll := Nat.le_trans (len_le_cnt l) (cntL_szL l)
  obtain ⟨a, cap, us, rfl, hc, hm, hn, hb, hi⟩ := h
  have hlm : l.length ≤ 1099511627776 := by omega
  have HB := hid hb; have HI := hid hi; have HM := hid hM; have HN := hid hl
  clear hb hi hM hn hll hl
  by_cases h0 : l.length = 0
  · have hl0 := List.eq_nil_of_length_eq_zero h0
    subst hl0
    go_enter Tryd.func15, Tryd.ntmps15
    go_wp2
    go_ret
    exact ⟨_, rfl, Fr.refl _ _, NOwn.nil _ _ _⟩
  · have q0 : ((l.length : Int) == 0) = false := by
      rw [beq_eq_false_iff_ne]
      omega
    obtain ⟨ii, i1, i2, i3, i4⟩ := info_parts Tryd.info_nd8
    go_enter Tryd.func15, Tryd.ntmps15
    go_wp2_with (at_make; refine wpList_make_own _ rfl _ _ 27 rfl w.heap.size 29 ii (.agg #[.int .i64 0, .int .i64 0, .string ⟨#[]⟩, .int .i64 0, .int .i64 0, .string ⟨#[]⟩, .slice none 0 0, .slice none 0 0]) 8 Tryd.underlying27 i1 i2 i3 .i64 .i64 _ l.length rfl rfl rfl (by rw [i4]; omega) (by unfold maxLen; omega) (Nat.le_refl _) ?_; intro W hown0 hgrow0)
    have hF := Fr.of_grownBy hgrow0
    have hF0 : Fr (fun _ => False) w W := hF.mono (fun _ _ e => by cases e)
    have hO0 : NOwn 29 w.heap.size W [] (.slice (some ⟨w.heap.size, 0, none⟩) 0 l.length) := ⟨[], hown0, fun i x h => by simp at h⟩
    clear hF hown0 hgrow0 i1 i2 i3 i4 q0
    have HF0 := hid hF0; have HO0 := hid hO0
    clear hF0 hO0
    go_loopw [3, 4] (fun v i wr => ∃ k : Nat, k ≤ l.length ∧ i = .int .i64 k ∧ NOwn 29 w.heap.size wr (l.take k) v ∧ Fr (fun _ => False) w wr) (fun _ i _ => l.length - (intOf i).toNat)
    case atStart => exact ⟨0, Nat.zero_le _, rfl, by rw [List.take_zero]; exact HO0.out, HF0.out⟩
    case round =>
      obtain ⟨k, hk, rfl, hO, hf⟩ := hrel
      by_cases hlt : k < l.length
      · obtain ⟨b, o, y, yva, c1, a', c', rfl, -, hy, hv, e0, e1, e2, e3, e4, e5, e6, e7⟩ := NL.elem HB.out HI.out k hlt
        replace e0 := hf.cell e0 not_false
        replace e1 := hf.cell e1 not_false
        replace e2 := hf.cell e2 not_false
        replace e3 := hf.cell e3 not_false
        replace e4 := hf.cell e4 not_false
        replace e5 := hf.cell e5 not_false
        replace e6 := hf.cell e6 not_false
        replace e7 := hf.cell e7 not_false
        have hv2 := hv.frame hf (fun _ _ => not_false)
        have t2 := szL_mem hy
        have t4 := take_snoc' hy
        have hy1 : y.sz ≤ N := by have := HN.out; omega
        have hy2 : y.sz ≤ 1099511627776 := by have := HM.out; omega
        have hc := ih y hy1 hy2 D
        have htl : (l.take k).length = k := by simp; omega
        clear hv t2 hy1 hy2 hy
        have HT := hid t4; have HFr := hid hf; have HV := hid hv2; have HC := hid hc; have HO := hid hO; have HL := hid htl
        clear t4 hf hv2 hc hO htl
        go_wp2_with (fail)
        refine (HC.out _ _ HV.out).mono ?_
        rintro e w2 ⟨u', rfl, hf2, hv'⟩
        obtain ⟨va9, v', rfl, ⟨a9, c9, us9, rfl, -⟩, a2, c2, us2, rfl, _⟩ := hv'.open
        have HF2 := hid hf2
        have HV2 := hid hv'
        obtain ⟨xs, ho, hxs⟩ := HO.out
        have HW := hid ho
        have HXS := hid hxs
        clear hf2 hv' ho hxs
        have hF3 : Fr (fun _ => False) wr (w2.alloc (.cells #[.int .i64 y.op, .int .i64 y.ln, .string y.s, .int .i64 y.v.k, .int .i64 y.v.n, .string y.v.s, .slice a9 y.v.l.length c9, .slice a2 y.l.length c2] 29)) := HF2.out.alloc _
        have hown := hF3.own HW.out (fun _ _ => id)
        have hn1 : (l.take k).length + 1 ≤ 1099511627776 := by rw [HL.out]; omega
        have hbs : w.heap.size ≤ (w2.alloc (.cells #[.int .i64 y.op, .int .i64 y.ln, .string y.s, .int .i64 y.v.k, .int .i64 y.v.n, .string y.v.s, .slice a9 y.v.l.length c9, .slice a2 y.l.length c2] 29)).heap.size := by
          have := HFr.out.size; have := hF3.size; omega
        have HF3 := hid hF3; have HBS := hid hbs; have HN1 := hid hn1; have HOW := hid hown
        clear hF3 hown hbs hn1
        go_wp2_with (at_builtin; go_must (refine wpList_appendR8 rfl (.tmp 17) (.tmp 23) 27 rfl 29 (.agg #[.int .i64 0, .int .i64 0, .string ⟨#[]⟩, .int .i64 0, .int .i64 0, .string ⟨#[]⟩, .slice none 0 0, .slice none 0 0]) 8 112 Tryd.underlying27 Tryd.info_nd8 rfl (by decide) _ rfl w.heap.size (l.take k).length xs HOW.out w2.heap.size 1 [.int .i64 y.op, .int .i64 y.ln, .string y.s, .int .i64 y.v.k, .int .i64 y.v.n, .string y.v.s, .slice a9 y.v.l.length c9, .slice a2 y.l.length c2] rfl rfl ?c1 ?c3 HN1.out (by decide) HBS.out ?_))
        case c1 => exact cells_new4 w2 #[.int .i64 y.op, .int .i64 y.ln, .string y.s, .int .i64 y.v.k, .int .i64 y.v.n, .string y.v.s, .slice a9 y.v.l.length c9, .slice a2 y.l.length c2] _ _
        case c3 => intro q hq; simp at hq; rcases hq with rfl | rfl | rfl | rfl | rfl | rfl | rfl | rfl <;> rfl
        intro g cp w4 ho4 hf4 hn4
        have hO4 : NOwn 29 w.heap.size w4 (l.take (k + 1)) (.slice (some ⟨g, 0, none⟩) (k + 1) cp) := by
          rw [HT.out]
          refine NOwn.snoc (u := #[.int .i64 y.op, .int .i64 y.ln, .string y.s, .int .i64 y.v.k, .int .i64 y.v.n, .string y.v.s, .slice a9 y.v.l.length c9, .slice a2 y.l.length c2]) HOW.out (fun i x hi => ?_) (by rw [HL.out]; exact ho4) hf4 (fun q hq => ?_) ?_ rfl
          · obtain ⟨u, hu, r⟩ := HXS.out i x hi
            exact ⟨u, (hu.frame HF3.out fun _ _ => id).mono fun q _ hq => ⟨hq.1, Nat.lt_of_lt_of_le hq.2.1 HF3.out.size, hq.2.2.1, HF3.out.soft hq.2.1 id hq.2.2.2⟩, r⟩
          · simp only [Value.ownBlock, Option.some.injEq] at hq
            subst hq
            simpa using hn4
          · refine (HV2.out.soft ((Fr.refl (fun _ => False) w2).alloc _) fun _ _ => id).mono fun q hq hq2 => ⟨?_, hq, fun e => ?_, hq2.2⟩
            · have := HFr.out.size; have hq4 : wr.heap.size ≤ q := hq2.1; omega
            · have := (HW.out.lt q e).2; have hq4 : wr.heap.size ≤ q := hq2.1; omega
        have hf5 : Fr (fun _ => False) w w4 := (HFr.out.trans' HF3.out).trans hf4 (fun _ _ => id) (fun q hq e => by have h1 := (HW.out.lt q e.symm).1; omega)
        clear ho4 hf4 hn4
        have HO4 := hid hO4; have HF5 := hid hf5
        clear hO4 hf5
        go_wp2
        go_roundw
        case rel => exact ⟨k + 1, by omega, by go_num, HO4.out, HF5.out⟩
        case measure => simp [intOf]; omega
      · have hkl : l.take k = l := List.take_of_length_le (by omega)
        rw [hkl] at hO
        have HNL := hid hO; have HFr := hid hf
        clear hkl hO hf
        go_wp2
        go_ret
        exact ⟨_, rfl, HFr.out, HNL.out⟩

theorem nnodes_of (N : Nat) (ih : ∀ (x : Nd), x.sz ≤ N → x.sz ≤ 1099511627776 → ∀ (D : Nat → Prop) (w : World) (u : Array Value), NIn D w x u →
      Calls Tryd.prog 40 #[.agg u] w fun e w' => ∃ u', e = .returned (.agg u') ∧ Fr (fun _ => False) w w' ∧ NIn (fun b => w.heap.size ≤ b ∧ Soft w' b) w' x u')
    (l : List Nd) (hl : szL l ≤ N) (hM : szL l ≤ 1099511627776) (D : Nat → Prop) (w : World) (v : Value) (h : NL D w l v) :
    Calls Tryd.prog 15 #[v] w fun e w' => ∃ v', e = .returned v' ∧ Fr (fun _ => False) w w' ∧ NL (fun b => w.heap.size ≤ b ∧ Soft w' b) w' l v' :=
  (nnodesO_of N ih l hl hM D w v h).mono fun _ _ ⟨v', a, b, c⟩ => ⟨v', a, b, c.close⟩

set_option maxRecDepth 100000 in
set_option maxHeartbeats 3200000 in
theorem nnode_any : ∀ (N : Nat) (x : Nd), x.sz ≤ N → x.sz ≤ 1099511627776 → ∀ (D : Nat → Prop) (w : World) (u : Array Value), NIn D w x u →
    Calls Tryd.prog 40 #[.agg u] w fun e w' => ∃ u', e = .returned (.agg u') ∧ Fr (fun _ => False) w w' ∧ NIn (fun b => w.heap.size ≤ b ∧ Soft w' b) w' x u' := by
  intro N
  induction N with
  | zero =>
    intro x h
    rw [Nd.sz_eq] at h
    omega
  | succ N ih =>
    intro x hN hM D w u h
    have hs := Nd.sz_eq x
    obtain ⟨va, v, rfl, hX, hL⟩ := h.open
    have hcall := nnodes_of N ih x.l (by omega) (by omega) D
    obtain ⟨a1, c1, us1, rfl, -⟩ := id hX
    obtain ⟨a, cap, us, rfl, -⟩ := id hL
    have hval := fun w2 u => rvalue_any x.v.size x.v (Nat.le_refl _) (by omega) D w2 u
    have hxv : VIn D w x.v #[.int .i64 x.v.k, .int .i64 x.v.n, .string x.v.s, .slice a1 x.v.l.length c1] := by
      have := hX.close x.v.k x.v.n x.v.s
      have e : x.v = .mk x.v.k x.v.n x.v.s x.v.l := by cases x.v; rfl
      rw [← e] at this; exact this
    have hopn : ∀ (E : Nat → Prop) (w' : World) (u' : Array Value), VIn E w' x.v u' → ∃ a8 c8, u' = #[.int .i64 x.v.k, .int .i64 x.v.n, .string x.v.s, .slice a8 x.v.l.length c8] ∧ VL E w' x.v.l (.slice a8 x.v.l.length c8) := fun E w' u' h => by
      obtain ⟨v', rfl, hl'⟩ := h.open
      obtain ⟨a8, c8, us8, rfl, h8⟩ := id hl'
      exact ⟨a8, c8, rfl, hl'⟩
    have hclose : ∀ (E : Nat → Prop) (w' : World) (va' la' : Value), VL E w' x.v.l va' → NL E w' x.l la' → NIn E w' x #[.int .i64 x.op, .int .i64 x.ln, .string x.s, .int .i64 x.v.k, .int .i64 x.v.n, .string x.v.s, va', la'] := fun E w' va' la' h1 h2 => by
      have := h2.close x.op x.ln x.s x.v h1
      have e : x = .mk x.op x.ln x.s x.v x.l := by cases x; rfl
      rw [← e] at this; exact this
    have HV := hid hval; have HX := hid hxv; have HOP := hid hopn; have HCL := hid hclose
    clear hval hxv hX hopn hclose hs
    generalize x.op = oo at *
    generalize x.ln = nn at *
    generalize x.s = ss at *
    generalize x.v.k = vk at *
    generalize x.v.n = vn at *
    generalize x.v.s = vs at *
    generalize x.v.l = vll at *
    generalize vll.length = vl at *
    generalize x.l = l at *
    have HL := hid hL; have HC := hid hcall
    clear hL hcall hN hM h
    go_enter Tryd.func40, Tryd.ntmps40
    go_upto_region 1 with fail
    have hb1 : ((w.alloc (.cells #[.int .i64 oo, .int .i64 nn, .string ss, .int .i64 vk, .int .i64 vn, .string vs, .slice a1 vl c1, .slice a l.length cap] 29)).alloc (.cells #[.int .i64 0, .int .i64 0, .string ⟨#[]⟩, .int .i64 0, .int .i64 0, .string ⟨#[]⟩, .slice none 0 0, .slice none 0 0] 29)).heap[w.heap.size]? = some (.cells #[.int .i64 oo, .int .i64 nn, .string ss, .int .i64 vk, .int .i64 vn, .string vs, .slice a1 vl c1, .slice a l.length cap] 29) := ((Fr.refl (fun _ => False) _).alloc _).heap (heap_alloc_new w _) not_false
    have hb2 : ((w.alloc (.cells #[.int .i64 oo, .int .i64 nn, .string ss, .int .i64 vk, .int .i64 vn, .string vs, .slice a1 vl c1, .slice a l.length cap] 29)).alloc (.cells #[.int .i64 0, .int .i64 0, .string ⟨#[]⟩, .int .i64 0, .int .i64 0, .string ⟨#[]⟩, .slice none 0 0, .slice none 0 0] 29)).heap[w.heap.size + 1]? = some (.cells #[.int .i64 0, .int .i64 0, .string ⟨#[]⟩, .int .i64 0, .int .i64 0, .string ⟨#[]⟩, .slice none 0 0, .slice none 0 0] 29) := by
      have := heap_alloc_new (w.alloc (.cells #[.int .i64 oo, .int .i64 nn, .string ss, .int .i64 vk, .int .i64 vn, .string vs, .slice a1 vl c1, .slice a l.length cap] 29)) (.cells #[.int .i64 0, .int .i64 0, .string ⟨#[]⟩, .int .i64 0, .int .i64 0, .string ⟨#[]⟩, .slice none 0 0, .slice none 0 0] 29)
      simpa using this
    have hF : Fr (fun _ => False) w ((w.alloc (.cells #[.int .i64 oo, .int .i64 nn, .string ss, .int .i64 vk, .int .i64 vn, .string vs, .slice a1 vl c1, .slice a l.length cap] 29)).alloc (.cells #[.int .i64 0, .int .i64 0, .string ⟨#[]⟩, .int .i64 0, .int .i64 0, .string ⟨#[]⟩, .slice none 0 0, .slice none 0 0] 29)) := ((Fr.refl _ _).alloc _).alloc _
    have hsz : ((w.alloc (.cells #[.int .i64 oo, .int .i64 nn, .string ss, .int .i64 vk, .int .i64 vn, .string vs, .slice a1 vl c1, .slice a l.length cap] 29)).alloc (.cells #[.int .i64 0, .int .i64 0, .string ⟨#[]⟩, .int .i64 0, .int .i64 0, .string ⟨#[]⟩, .slice none 0 0, .slice none 0 0] 29)).heap.size = w.heap.size + 2 := by simp
    generalize (w.alloc (.cells #[.int .i64 oo, .int .i64 nn, .string ss, .int .i64 vk, .int .i64 vn, .string vs, .slice a1 vl c1, .slice a l.length cap] 29)).alloc (.cells #[.int .i64 0, .int .i64 0, .string ⟨#[]⟩, .int .i64 0, .int .i64 0, .string ⟨#[]⟩, .slice none 0 0, .slice none 0 0] 29) = W at *
    have c0 : W.cell? ⟨w.heap.size, 0, none⟩ = some (.int .i64 oo) := by rw [cell_of_row W _ 0 _ _ _ hb1]; rfl
    have c1' : W.cell? ⟨w.heap.size, 1, none⟩ = some (.int .i64 nn) := by rw [cell_of_row W _ 1 _ _ _ hb1]; rfl
    have c2 : W.cell? ⟨w.heap.size, 2, none⟩ = some (.string ss) := by rw [cell_of_row W _ 2 _ _ _ hb1]; rfl
    have c3 : W.cell? ⟨w.heap.size, 3, none⟩ = some (.int .i64 vk) := by rw [cell_of_row W _ 3 _ _ _ hb1]; rfl
    have c4 : W.cell? ⟨w.heap.size, 4, none⟩ = some (.int .i64 vn) := by rw [cell_of_row W _ 4 _ _ _ hb1]; rfl
    have c5 : W.cell? ⟨w.heap.size, 5, none⟩ = some (.string vs) := by rw [cell_of_row W _ 5 _ _ _ hb1]; rfl
    have c6 : W.cell? ⟨w.heap.size, 6, none⟩ = some (.slice a1 vl c1) := by rw [cell_of_row W _ 6 _ _ _ hb1]; rfl
    have c7 : W.cell? ⟨w.heap.size, 7, none⟩ = some (.slice a l.length cap) := by rw [cell_of_row W _ 7 _ _ _ hb1]; rfl
    have H1 := hid hb1; have H2 := hid hb2; have HF := hid hF; have HZ := hid hsz
    clear hb1 hb2 hF hsz
    refine wp_region_ord [(0, 0), (1, 0), (2, 0), (3, 0), (4, 0), (5, 0), (6, 0), (7, 0), (9, 0), (10, 0), (8, 1), (11, 1), (12, 1), (13, 1)] (fun w' => w'.cell? ⟨w.heap.size, 0, none⟩ = some (.int .i64 oo) ∧ w'.cell? ⟨w.heap.size, 1, none⟩ = some (.int .i64 nn) ∧ w'.cell? ⟨w.heap.size, 2, none⟩ = some (.string ss) ∧ w'.cell? ⟨w.heap.size, 3, none⟩ = some (.int .i64 vk) ∧ w'.cell? ⟨w.heap.size, 4, none⟩ = some (.int .i64 vn) ∧ w'.cell? ⟨w.heap.size, 5, none⟩ = some (.string vs) ∧ w'.cell? ⟨w.heap.size, 6, none⟩ = some (.slice a1 vl c1) ∧ w'.cell? ⟨w.heap.size, 7, none⟩ = some (.slice a l.length cap)) (by kernel_rfl) (by kernel_rfl) (by kernel_rfl) rfl (fun _ _ d _ _ h => by cases d <;> exact h) ⟨c0, c1', c2, c3, c4, c5, c6, c7⟩ ?_
    iterate 10 (refine wpO_take ?_ rfl (by kernel_rfl) ?_ ?_; rotate_left; (· intro w' hS; go_simp; try with_reducible rfl); try simp only [Act.put, List.setIfInBounds_toArray, List.set_cons_zero, List.set_cons_succ])
    refine wpO_run rfl (by kernel_rfl) (fun K hK => ?_); go_simp
    refine (HV.out W.drew _ (HX.out.frame HF.out.drew fun _ _ => id)).mono ?_
    rintro e w2 ⟨u8, rfl, hf2, hv2⟩
    obtain ⟨a8, c8, rfl, hl8⟩ := HOP.out _ _ _ hv2
    have k0 : w2.cell? ⟨w.heap.size, 0, none⟩ = some (.int .i64 oo) := hf2.cell c0 not_false
    have k1 : w2.cell? ⟨w.heap.size, 1, none⟩ = some (.int .i64 nn) := hf2.cell c1' not_false
    have k2 : w2.cell? ⟨w.heap.size, 2, none⟩ = some (.string ss) := hf2.cell c2 not_false
    have k3 : w2.cell? ⟨w.heap.size, 3, none⟩ = some (.int .i64 vk) := hf2.cell c3 not_false
    have k4 : w2.cell? ⟨w.heap.size, 4, none⟩ = some (.int .i64 vn) := hf2.cell c4 not_false
    have k5 : w2.cell? ⟨w.heap.size, 5, none⟩ = some (.string vs) := hf2.cell c5 not_false
    have k6 : w2.cell? ⟨w.heap.size, 6, none⟩ = some (.slice a1 vl c1) := hf2.cell c6 not_false
    have k7 : w2.cell? ⟨w.heap.size, 7, none⟩ = some (.slice a l.length cap) := hf2.cell c7 not_false
    have HF2 := hid (HF.out.drew.trans' hf2); have HL8 := hid hl8; have HS2 := hid hf2.size; have HR2 := hid (hf2.heap (show W.drew.heap[w.heap.size + 1]? = _ from H2.out) not_false)
    clear hf2 hv2 hl8 c0 c1' c2 c3 c4 c5 c6 c7
    refine hK _ _ (fun _ => ⟨k0, k1, k2, k3, k4, k5, k6, k7⟩) ?_
    clear hK K
    try simp only [Act.put, List.setIfInBounds_toArray, List.set_cons_zero, List.set_cons_succ]
    refine wpO_run rfl (by kernel_rfl) (fun K hK => ?_); go_simp
    refine (HC.out w2 _ (HL.out.frame HF2.out fun _ _ => id)).mono ?_
    rintro e w3 ⟨v', rfl, hf3, hv'⟩
    obtain ⟨a9, c9, us9, rfl, hv9⟩ := id hv'
    clear hv9
    have m0 : w3.cell? ⟨w.heap.size, 0, none⟩ = some (.int .i64 oo) := hf3.cell k0 not_false
    have m1 : w3.cell? ⟨w.heap.size, 1, none⟩ = some (.int .i64 nn) := hf3.cell k1 not_false
    have m2 : w3.cell? ⟨w.heap.size, 2, none⟩ = some (.string ss) := hf3.cell k2 not_false
    have m3 : w3.cell? ⟨w.heap.size, 3, none⟩ = some (.int .i64 vk) := hf3.cell k3 not_false
    have m4 : w3.cell? ⟨w.heap.size, 4, none⟩ = some (.int .i64 vn) := hf3.cell k4 not_false
    have m5 : w3.cell? ⟨w.heap.size, 5, none⟩ = some (.string vs) := hf3.cell k5 not_false
    have m6 : w3.cell? ⟨w.heap.size, 6, none⟩ = some (.slice a1 vl c1) := hf3.cell k6 not_false
    have m7 : w3.cell? ⟨w.heap.size, 7, none⟩ = some (.slice a l.length cap) := hf3.cell k7 not_false
    have hb3 := hf3.heap HR2.out not_false
    have e0 : w3.cell? ⟨w.heap.size + 1, 0, none⟩ = some (.int .i64 0) := by rw [cell_of_row w3 _ 0 _ _ _ hb3]; rfl
    have e1 : w3.cell? ⟨w.heap.size + 1, 1, none⟩ = some (.int .i64 0) := by rw [cell_of_row w3 _ 1 _ _ _ hb3]; rfl
    have e2 : w3.cell? ⟨w.heap.size + 1, 2, none⟩ = some (.string ⟨#[]⟩) := by rw [cell_of_row w3 _ 2 _ _ _ hb3]; rfl
    have e3 : w3.cell? ⟨w.heap.size + 1, 3, none⟩ = some (.int .i64 0) := by rw [cell_of_row w3 _ 3 _ _ _ hb3]; rfl
    have e4 : w3.cell? ⟨w.heap.size + 1, 4, none⟩ = some (.int .i64 0) := by rw [cell_of_row w3 _ 4 _ _ _ hb3]; rfl
    have e5 : w3.cell? ⟨w.heap.size + 1, 5, none⟩ = some (.string ⟨#[]⟩) := by rw [cell_of_row w3 _ 5 _ _ _ hb3]; rfl
    have e6 : w3.cell? ⟨w.heap.size + 1, 6, none⟩ = some (.slice none 0 0) := by rw [cell_of_row w3 _ 6 _ _ _ hb3]; rfl
    have e7 : w3.cell? ⟨w.heap.size + 1, 7, none⟩ = some (.slice none 0 0) := by rw [cell_of_row w3 _ 7 _ _ _ hb3]; rfl
    have F2 : ∀ i, w3.frozen? ⟨w.heap.size + 1, i, none⟩ = false := fun i => frozen_of_row w3 _ i _ _ hb3
    have HF3 := hid (HF2.out.trans' hf3); have HL9 := hid hv'; have HB3 := hid hb3; have HFF := hid hf3; have HS3 := hid hf3.size
    clear hb3 hv' hf3 k0 k1 k2 k3 k4 k5 k6 k7
    refine hK _ _ (fun _ => ⟨m0, m1, m2, m3, m4, m5, m6, m7⟩) ?_
    clear hK K
    try simp only [Act.put, List.setIfInBounds_toArray, List.set_cons_zero, List.set_cons_succ]
    (refine wpO_run rfl (by kernel_rfl) (fun K hK => ?_); go_simp; refine hK _ _ (fun _ => ⟨m0, m1, m2, m3, m4, m5, m6, m7⟩) ?_; clear hK K; try simp only [Act.put, List.setIfInBounds_toArray, List.set_cons_zero, List.set_cons_succ])
    refine wpO_run rfl (by kernel_rfl) (fun K hK => ?_)
    go_simp
    refine hK _ _ (last_skip (by kernel_rfl)) ?_
    clear hK K
    try simp only [Act.put, List.setIfInBounds_toArray, List.set_cons_zero, List.set_cons_succ]
    refine wpO_end ?_
    go_wp2
    have hR := (setCell_row 7 (.slice a9 l.length c9) (setCell_row 6 (.slice a8 vl c8) (setCell_row 5 (.string vs) (setCell_row 4 (.int .i64 vn) (setCell_row 3 (.int .i64 vk) (setCell_row 2 (.string ss) (setCell_row 1 (.int .i64 nn) (setCell_row 0 (.int .i64 oo) HB3.out))))))))
    simp only [List.setIfInBounds_toArray, List.set_cons_zero, List.set_cons_succ] at hR
    have hf8 : Fr (fun q => q = w.heap.size + 1) w3 ((((((((w3.setCell ⟨w.heap.size + 1, 0, none⟩ (.int .i64 oo)).setCell ⟨w.heap.size + 1, 1, none⟩ (.int .i64 nn)).setCell ⟨w.heap.size + 1, 2, none⟩ (.string ss)).setCell ⟨w.heap.size + 1, 3, none⟩ (.int .i64 vk)).setCell ⟨w.heap.size + 1, 4, none⟩ (.int .i64 vn)).setCell ⟨w.heap.size + 1, 5, none⟩ (.string vs)).setCell ⟨w.heap.size + 1, 6, none⟩ (.slice a8 vl c8)).setCell ⟨w.heap.size + 1, 7, none⟩ (.slice a9 l.length c9)) := (((((((((Fr.refl (fun q => q = w.heap.size + 1) w3).setCell (p := ⟨w.heap.size + 1, 0, none⟩) (.inl rfl) (.int .i64 oo)).setCell (p := ⟨w.heap.size + 1, 1, none⟩) (.inl rfl) (.int .i64 nn)).setCell (p := ⟨w.heap.size + 1, 2, none⟩) (.inl rfl) (.string ss)).setCell (p := ⟨w.heap.size + 1, 3, none⟩) (.inl rfl) (.int .i64 vk)).setCell (p := ⟨w.heap.size + 1, 4, none⟩) (.inl rfl) (.int .i64 vn)).setCell (p := ⟨w.heap.size + 1, 5, none⟩) (.inl rfl) (.string vs)).setCell (p := ⟨w.heap.size + 1, 6, none⟩) (.inl rfl) (.slice a8 vl c8)).setCell (p := ⟨w.heap.size + 1, 7, none⟩) (.inl rfl) (.slice a9 l.length c9))
    refine bodyPost_ret (results_cell_row rfl _ _ (w.heap.size + 1) _ _ _ _ rfl hR Tryd.underlying29 rfl (by kernel_rfl)) rfl ?_
    refine ⟨_, rfl, HF3.out.trans hf8 (fun _ _ => id) (fun q hq e => by omega), ?_⟩
    have hv3 : VL (fun b => W.heap.size ≤ b ∧ Soft w3 b) w3 _ _ := HL8.out.softL HFF.out (fun _ _ h => h)
    have hn3 : NL (fun b => W.heap.size ≤ b ∧ Soft w3 b) w3 _ _ := HL9.out.mono fun k _ hk => ⟨by have := HS2.out; have h9 := hk.1; exact Nat.le_trans this h9, hk.2⟩
    exact ((HCL.out _ _ _ _ hv3 hn3).soft hf8 (fun q hq e => by have h1 : W.heap.size ≤ q := hq; have := HZ.out; omega)).mono fun q _ hq => ⟨by have h1 : W.heap.size ≤ q := hq.1; have := HZ.out; omega, hq.2⟩
/-- A copy of nodes. -/
theorem nnodes_any (l : List Nd) (hM : szL l ≤ 1099511627776) (D : Nat → Prop) (w : World) (v : Value) (h : NL D w l v) :
    Calls Tryd.prog 15 #[v] w fun e w' => ∃ v', e = .returned v' ∧ Fr (fun _ => False) w w' ∧ NL (fun b => w.heap.size ≤ b ∧ Soft w' b) w' l v' :=
  nnodes_of (szL l) (nnode_any (szL l)) l (Nat.le_refl _) hM D w v h
end Go.Proofs.YteihmagldhmjgaaDoor
