/- Package seq: Insert, Delete. -/
import Derived.Test.YtebanmigaikhhaaSeqF
namespace Go.Proofs.Ytebanmigaikhhaa
open Go.RowKit

theorem VL.upto {D : Nat → Prop} {w : World} {a : Option Addr} {n c : Nat} {l : List V} (h : VL D w l (.slice a n c)) (k : Nat) (hk : k ≤ l.length) : VL D w (l.take k) (.slice a k c) := by
  obtain ⟨a0, c0, us, e, h1, h2, hn, hb, hi⟩ := h
  simp only [Value.slice.injEq] at e
  obtain ⟨rfl, rfl, rfl⟩ := e
  have hL : (l.take k).length = k := by simp; omega
  refine ⟨a, c, us, by rw [hL], by omega, by omega, hn, fun i hi' => hb i (by omega), fun i x hx => ?_⟩
  rw [List.getElem?_take] at hx
  split at hx
  · exact hi _ x hx
  · cases hx
theorem VL.rest {D : Nat → Prop} {w : World} {a : Option Addr} {n c : Nat} {l : List V} (h : VL D w l (.slice a n c)) (k : Nat) (hk : k ≤ l.length) : VL D w (l.drop k) (.slice (if c = k then a else Option.map (fun x => x.add (k * 4)) a) (l.length - k) (c - k)) := by
  have := h.sub (a' := if c = k then a else Option.map (fun x => x.add (k * 4)) a) (c' := c - k) (len' := l.length - k) k l.length hk (Nat.le_refl _) rfl rfl rfl
  rwa [List.take_length] at this
theorem VL.lit {D : Nat → Prop} {w : World} {x : V} {g : Nat} {c0 c1 c2 c3 : Value} {t : TypeId} (hx : VIn D w x #[c0, c1, c2, c3]) (hg : w.heap[g]? = some (.cells #[c0, c1, c2, c3] t (0, 0))) (hD : D g) : VL D w [x] (.slice (some ⟨g, 0, none⟩) 1 1) := by
  refine ⟨_, 1, fun _ => #[c0, c1, c2, c3], rfl, Nat.le_refl _, by simp [maxLen], (fun e => by cases e), fun i hi => ⟨g, 0, rfl, hD, rfl, fun j hj => ?_⟩, fun i y hy => ?_⟩
  · have : i = 0 := by simp at hi; exact hi
    subst this
    rw [cell_of_row _ _ _ _ _ _ hg]
    simp
  · have : i = 0 := by have := (List.getElem?_eq_some_iff.1 hy).1; simp at this; exact this
    subst this
    cases hy
    exact hx
/-- Three pieces, one behind the other. -/
theorem concat3 (l1 l2 l3 : List V) (v1 v2 v3 : Value) (B : Nat) (D : Nat → Prop) (w : World) (t : TypeId) (hr : w.heap[B]? = some (.cells #[v1, v2, v3] t (0, 0))) (h1 : VL D w l1 v1) (h2 : VL D w l2 v2) (h3 : VL D w l3 v3) (hD : ∀ k, D k → k < w.heap.size) (hl : l1.length + l2.length + l3.length ≤ 1099511627776) (l : List V) (he : l1 ++ (l2 ++ l3) = l) :
    Calls Try.prog 46 #[.slice (some ⟨B, 0, none⟩) 3 3] w fun e w' => ∃ v us, e = .returned v ∧ w'.ownsRow w.heap.size 30 4 v l.length us ∧ VC D w' l us ∧ Fr (fun _ => False) w w' := by
  have hall : allP [(v1, l1), (v2, l2), (v3, l3)] = l := by simp [allP, he]
  have hps : ∀ (k : Nat) p, [(v1, l1), (v2, l2), (v3, l3)][k]? = some p → w.cell? ⟨B, k, none⟩ = some p.1 ∧ VL D w p.2 p.1 := by
    intro k p hk
    match k, hk with
    | 0, hk =>
      simp only [List.getElem?_cons_zero, Option.some.injEq] at hk
      subst hk
      exact ⟨by rw [cell_of_row _ _ 0 _ _ _ hr]; rfl, h1⟩
    | 1, hk =>
      simp only [List.getElem?_cons_succ, List.getElem?_cons_zero, Option.some.injEq] at hk
      subst hk
      exact ⟨by rw [cell_of_row _ _ 1 _ _ _ hr]; rfl, h2⟩
    | 2, hk =>
      simp only [List.getElem?_cons_succ, List.getElem?_cons_zero, Option.some.injEq] at hk
      subst hk
      exact ⟨by rw [cell_of_row _ _ 2 _ _ _ hr]; rfl, h3⟩
    | k + 3, hk => simp at hk
  have := concat_any [(v1, l1), (v2, l2), (v3, l3)] B 3 D w hps hD (by rw [hall, ← he, List.length_append, List.length_append]; omega) (by simp)
  rw [hall, show [(v1, l1), (v2, l2), (v3, l3)].length = 3 from rfl] at this
  exact this

set_option maxRecDepth 100000 in
set_option maxHeartbeats 3200000 in
theorem insert_any (l : List V) (x : V) (v : Value) (u : Array Value) (i : Int) (w : World) (h : VL T w l v) (hx : VIn T w x u) (hl : sizeL l ≤ 1073741824) (hxs : x.size ≤ 1073741824) : Calls Try.prog 20 #[v, .agg u, .int .i64 i] w (MadePost w (pIns l x i)) := by
  have hll := len_le_sizeL l
  obtain ⟨v9, rfl, a9, c9, us9, rfl, -⟩ := hx.open
  have hf := (Fr.refl (fun _ => False) w).alloc (.cells #[.int .i64 x.k, .int .i64 x.n, .string x.s, .slice a9 x.l.length c9] 30)
  have hr := heap_alloc_new w (.cells #[.int .i64 x.k, .int .i64 x.n, .string x.s, .slice a9 x.l.length c9] 30)
  have hvl := h.fr hf
  have hxv := hx.fr hf
  have hW : ∃ W, w.alloc (.cells #[.int .i64 x.k, .int .i64 x.n, .string x.s, .slice a9 x.l.length c9] 30) = W := ⟨_, rfl⟩
  obtain ⟨a, c, us, rfl, hlc, hcm, -⟩ := id h
  have hI : (l.length : Int) ≤ 1073741824 := by omega
  obtain ⟨k, hk⟩ : ∃ k, pAt l i = k := ⟨_, rfl⟩
  have hkl : k ≤ l.length := by unfold pAt at hk; omega
  have hkc : k ≤ c := by omega
  have hp : pIns l x i = pMade (l.take k ++ x :: l.drop k) := by unfold pIns; rw [hk]
  have hs : sizeL (l.take k ++ x :: l.drop k) ≤ 1099511627776 := by
    have := sizeL_drop l k
    rw [sizeL_app, sizeL]
    omega
  unfold pAt at hk
  have HF := hid hf; have HR := hid hr; have HV := hid hvl; have HX := hid hxv; have HP := hid hp; have HS := hid hs; have HK := hid hk
  unfold MadePost
  clear h hx hl hxs hll hf hr hvl hxv hp hs hk hW
  go_enter Try.func20, Try.ntmps20
  go_upto_region 1 with fail
  go_cut [8] from 9 to 15 (fun c wx => c = .int .i64 k ∧ (w.alloc (.cells #[.int .i64 x.k, .int .i64 x.n, .string x.s, .slice a9 x.l.length c9] 30)) = wx)
  case first =>
    have hcase : (i ≤ 0 ∧ Hid (k = 0)) ∨ (1 ≤ i ∧ i ≤ l.length + 1 ∧ Hid ((k : Int) = i - 1)) ∨ ((l.length : Int) + 1 < i ∧ Hid (k = l.length)) := by
      have := HK.out
      by_cases h1 : i ≤ 0
      · exact .inl ⟨h1, hid (by omega)⟩
      · by_cases h2 : i ≤ l.length + 1
        · exact .inr (.inl ⟨by omega, h2, hid (by omega)⟩)
        · exact .inr (.inr ⟨by omega, hid (by omega)⟩)
    rcases hcase with ⟨h1, HZ⟩ | ⟨h1, h2, HZ⟩ | ⟨h1, HZ⟩
    · have h2 : i ≤ (l.length : Int) + 1 := by omega
      have h3 : ¬ (1 : Int) ≤ i := by omega
      go_wp2_with fail
      all_goals
        have hz := HZ.out
        go_meet
        exact ⟨int_eq (by omega), rfl⟩
    · have h3 : (i - 1 : Int) ≤ 1073741824 := by omega
      go_wp2_with fail
      all_goals
        have hz := HZ.out
        go_meet
        exact ⟨int_eq (by omega), rfl⟩
    · have h2 : ¬ i ≤ (l.length : Int) + 1 := by omega
      have h4 : (1 : Int) ≤ (l.length : Int) + 1 := by omega
      go_wp2_with fail
      all_goals
        have hz := HZ.out
        go_meet
        exact ⟨int_eq (by omega), rfl⟩
  case rest =>
  obtain ⟨rfl, rfl⟩ := hcut
  clear HK
  generalize (w.alloc (.cells #[.int .i64 x.k, .int .i64 x.n, .string x.s, .slice a9 x.l.length c9] 30)) = W at *
  go_upto_region 2 with fail
  have hr1 := HR.out
  have y0 : W.cell? ⟨w.heap.size, 0, none⟩ = some (.int .i64 x.k) := by rw [cell_of_row _ _ 0 _ _ _ hr1]; rfl
  have y1 : W.cell? ⟨w.heap.size, 1, none⟩ = some (.int .i64 x.n) := by rw [cell_of_row _ _ 1 _ _ _ hr1]; rfl
  have y2 : W.cell? ⟨w.heap.size, 2, none⟩ = some (.string x.s) := by rw [cell_of_row _ _ 2 _ _ _ hr1]; rfl
  have y3 : W.cell? ⟨w.heap.size, 3, none⟩ = some (.slice a9 x.l.length c9) := by rw [cell_of_row _ _ 3 _ _ _ hr1]; rfl
  refine wp_region_ord [(0, 0), (1, 0), (2, 0), (3, 0), (5, 0), (6, 0), (7, 0), (4, 1), (8, 1), (9, 1), (10, 1), (11, 0), (12, 0), (13, 0), (14, 0)] (fun w' => w'.cell? ⟨w.heap.size, 0, none⟩ = some (.int .i64 x.k) ∧ w'.cell? ⟨w.heap.size, 1, none⟩ = some (.int .i64 x.n) ∧ w'.cell? ⟨w.heap.size, 2, none⟩ = some (.string x.s) ∧ w'.cell? ⟨w.heap.size, 3, none⟩ = some (.slice a9 x.l.length c9)) (by kernel_rfl) (by kernel_rfl) (by kernel_rfl) rfl (fun _ _ d _ _ h => by cases d <;> exact h) ⟨y0, y1, y2, y3⟩ ?_
  iterate 7 (refine wpO_take ?_ rfl (by kernel_rfl) ?_ ?_; rotate_left; (· intro w' hS; obtain ⟨hS1, hS2, hS3, hS4⟩ := hS; go_simp; try with_reducible rfl); try simp only [Act.put, List.setIfInBounds_toArray, List.set_cons_zero, List.set_cons_succ])
  have hfa := (Fr.refl (fun _ => False) W).drew.alloc (.cells #[.int .i64 x.k, .int .i64 x.n, .string x.s, .slice a9 x.l.length c9] 30)
  have hra := heap_alloc_new W.drew (.cells #[.int .i64 x.k, .int .i64 x.n, .string x.s, .slice a9 x.l.length c9] 30)
  (refine wpO_run rfl (by kernel_rfl) (fun K hK => ?_); go_simp; refine hK _ _ (fun _ => ⟨hfa.cell y0 not_false, hfa.cell y1 not_false, hfa.cell y2 not_false, hfa.cell y3 not_false⟩) ?_; clear hK K; try simp only [Act.put, List.setIfInBounds_toArray, List.set_cons_zero, List.set_cons_succ])
  have hfb := ((Fr.refl (fun _ => False) W).alloc (.cells #[.int .i64 x.k, .int .i64 x.n, .string x.s, .slice a9 x.l.length c9] 30)).drew.alloc (.cells #[.slice a k c, .slice (some ⟨W.heap.size, 0, none⟩) 1 1, .slice (if c = k then a else Option.map (fun x => x.add (k * 4)) a) (l.length - k) (c - k)] 22)
  have hrb := heap_alloc_new (W.alloc (.cells #[.int .i64 x.k, .int .i64 x.n, .string x.s, .slice a9 x.l.length c9] 30)).drew (.cells #[.slice a k c, .slice (some ⟨W.heap.size, 0, none⟩) 1 1, .slice (if c = k then a else Option.map (fun x => x.add (k * 4)) a) (l.length - k) (c - k)] 22)
  (refine wpO_run rfl (by kernel_rfl) (fun K hK => ?_); go_simp; refine hK _ _ (fun _ => ⟨hfb.cell y0 not_false, hfb.cell y1 not_false, hfb.cell y2 not_false, hfb.cell y3 not_false⟩) ?_; clear hK K; try simp only [Act.put, List.setIfInBounds_toArray, List.set_cons_zero, List.set_cons_succ])
  clear hfa hra hfb hrb
  have hf2 : Fr (fun _ => False) W ((W.alloc (.cells #[.int .i64 x.k, .int .i64 x.n, .string x.s, .slice a9 x.l.length c9] 30)).alloc (.cells #[.slice a k c, .slice (some ⟨W.heap.size, 0, none⟩) 1 1, .slice (if c = k then a else Option.map (fun x => x.add (k * 4)) a) (l.length - k) (c - k)] 22)).drew := (((Fr.refl (fun _ => False) W).alloc _).alloc _).drew
  have hra : ((W.alloc (.cells #[.int .i64 x.k, .int .i64 x.n, .string x.s, .slice a9 x.l.length c9] 30)).alloc (.cells #[.slice a k c, .slice (some ⟨W.heap.size, 0, none⟩) 1 1, .slice (if c = k then a else Option.map (fun x => x.add (k * 4)) a) (l.length - k) (c - k)] 22)).drew.heap[W.heap.size]? = some (.cells #[.int .i64 x.k, .int .i64 x.n, .string x.s, .slice a9 x.l.length c9] 30) := ((Fr.refl (fun _ => False) (W.alloc (.cells #[.int .i64 x.k, .int .i64 x.n, .string x.s, .slice a9 x.l.length c9] 30))).alloc (.cells #[.slice a k c, .slice (some ⟨W.heap.size, 0, none⟩) 1 1, .slice (if c = k then a else Option.map (fun x => x.add (k * 4)) a) (l.length - k) (c - k)] 22)).drew.heap (heap_alloc_new W _) not_false
  have hrb : ((W.alloc (.cells #[.int .i64 x.k, .int .i64 x.n, .string x.s, .slice a9 x.l.length c9] 30)).alloc (.cells #[.slice a k c, .slice (some ⟨W.heap.size, 0, none⟩) 1 1, .slice (if c = k then a else Option.map (fun x => x.add (k * 4)) a) (l.length - k) (c - k)] 22)).drew.heap[W.heap.size + 1]? = some (.cells #[.slice a k c, .slice (some ⟨W.heap.size, 0, none⟩) 1 1, .slice (if c = k then a else Option.map (fun x => x.add (k * 4)) a) (l.length - k) (c - k)] 22) := by
    have := heap_alloc_new (W.alloc (.cells #[.int .i64 x.k, .int .i64 x.n, .string x.s, .slice a9 x.l.length c9] 30)) (.cells #[.slice a k c, .slice (some ⟨W.heap.size, 0, none⟩) 1 1, .slice (if c = k then a else Option.map (fun x => x.add (k * 4)) a) (l.length - k) (c - k)] 22)
    rw [show (W.alloc (.cells #[.int .i64 x.k, .int .i64 x.n, .string x.s, .slice a9 x.l.length c9] 30)).heap.size = W.heap.size + 1 by simp] at this
    exact this
  have hsz : W.heap.size + 1 < ((W.alloc (.cells #[.int .i64 x.k, .int .i64 x.n, .string x.s, .slice a9 x.l.length c9] 30)).alloc (.cells #[.slice a k c, .slice (some ⟨W.heap.size, 0, none⟩) 1 1, .slice (if c = k then a else Option.map (fun x => x.add (k * 4)) a) (l.length - k) (c - k)] 22)).drew.heap.size := heap_lt hrb
  generalize ((W.alloc (.cells #[.int .i64 x.k, .int .i64 x.n, .string x.s, .slice a9 x.l.length c9] 30)).alloc (.cells #[.slice a k c, .slice (some ⟨W.heap.size, 0, none⟩) 1 1, .slice (if c = k then a else Option.map (fun x => x.add (k * 4)) a) (l.length - k) (c - k)] 22)).drew = W2 at *
  have hV2 := HV.out.lt.frame hf2 fun _ _ => not_false
  obtain ⟨L, hL⟩ : ∃ L, l.take k ++ x :: l.drop k = L := ⟨_, rfl⟩
  rw [hL] at HS HP
  have hcl := concat3 (l.take k) [x] (l.drop k) _ _ _ (W.heap.size + 1) (fun q => q < W.heap.size + 1) W2 _ hrb ((hV2.upto k hkl).mono fun q _ hq => by omega) (VL.lit ((HX.out.lt.frame hf2 fun _ _ => not_false).mono fun q _ hq => by omega) hra (by omega)) ((hV2.rest k hkl).mono fun q _ hq => by omega) (fun q hq => by omega) (by simp; omega) L hL
  have HF2 := hid (HF.out.trans' hf2)
  have HCL := hid hcl
  have t0 := hf2.cell y0 not_false
  have t1 := hf2.cell y1 not_false
  have t2 := hf2.cell y2 not_false
  have t3 := hf2.cell y3 not_false
  clear hL hcl hf2 hra hrb hsz hV2 y0 y1 y2 y3
  refine wpO_run rfl (by kernel_rfl) (fun K hK => ?_); go_simp
  refine HCL.out.mono ?_
  rintro e w3 ⟨v3, us3, rfl, ho3, hc3, hf3⟩
  have hv3 := hc3.own ho3
  obtain ⟨a3, c3, us4, rfl, -⟩ := id hv3
  refine hK _ _ (fun _ => ⟨hf3.cell t0 not_false, hf3.cell t1 not_false, hf3.cell t2 not_false, hf3.cell t3 not_false⟩) ?_
  clear hK K
  try simp only [Act.put, List.setIfInBounds_toArray, List.set_cons_zero, List.set_cons_succ]
  have HF3 := hid (HF2.out.trans' hf3); have HV3 := hid hv3
  have u0 := hf3.cell t0 not_false
  have u1 := hf3.cell t1 not_false
  have u2 := hf3.cell t2 not_false
  have u3 := hf3.cell t3 not_false
  clear ho3 hc3 hf3 hv3 t0 t1 t2 t3
  refine wpO_run rfl (by kernel_rfl) (fun K hK => ?_); go_simp
  refine (made_any _ HS.out _ w3 _ HV3.out).mono ?_
  rintro e w4 ⟨v4, rfl, hf4, hv4⟩
  obtain ⟨a4, c4, us4, rfl, -⟩ := id hv4
  refine hK _ _ (fun _ => ⟨hf4.cell u0 not_false, hf4.cell u1 not_false, hf4.cell u2 not_false, hf4.cell u3 not_false⟩) ?_
  clear hK K
  try simp only [Act.put, List.setIfInBounds_toArray, List.set_cons_zero, List.set_cons_succ]
  have HF4 := hid (HF3.out.trans' hf4); have HV4 := hid hv4
  clear hf4 hv4 u0 u1 u2 u3
  iterate 4 (refine wpO_take ?_ rfl (by kernel_rfl) ?_ ?_; rotate_left; (· intro w' hS; go_simp; try with_reducible rfl); try simp only [Act.put, List.setIfInBounds_toArray, List.set_cons_zero, List.set_cons_succ])
  refine wpO_end ?_
  go_wp2_with fail
  all_goals
    go_ret2
    exact ⟨_, by rw [HP.out]; rfl, HF4.out, by rw [HP.out]; exact HV4.out.t⟩
end Go.Proofs.Ytebanmigaikhhaa
