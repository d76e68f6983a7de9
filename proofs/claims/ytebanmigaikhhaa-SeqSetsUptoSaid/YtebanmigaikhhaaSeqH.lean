/- Package seq: Delete. -/
import Derived.Test.YtebanmigaikhhaaSeqG
import Derived.IntWalk
namespace Go.Proofs.Ytebanmigaikhhaa
open Go.RowKit

/-- Two pieces, one behind the other. -/
theorem concat2 (l1 l2 : List V) (v1 v2 : Value) (B : Nat) (D : Nat → Prop) (w : World) (t : TypeId) (hr : w.heap[B]? = some (.cells #[v1, v2] t (0, 0))) (h1 : VL D w l1 v1) (h2 : VL D w l2 v2) (hD : ∀ k, D k → k < w.heap.size) (hl : l1.length + l2.length ≤ 1099511627776) (l : List V) (he : l1 ++ l2 = l) :
    Calls Try.prog 46 #[.slice (some ⟨B, 0, none⟩) 2 2] w fun e w' => ∃ v us, e = .returned v ∧ w'.ownsRow w.heap.size 30 4 v l.length us ∧ VC D w' l us ∧ Fr (fun _ => False) w w' := by
  have hall : allP [(v1, l1), (v2, l2)] = l := by simp [allP, he]
  have hps : ∀ (k : Nat) p, [(v1, l1), (v2, l2)][k]? = some p → w.cell? ⟨B, k, none⟩ = some p.1 ∧ VL D w p.2 p.1 := by
    intro k p hk
    match k, hk with
    | 0, hk =>
      simp only [List.getElem?_cons_zero, Option.some.injEq] at hk
      subst hk
      exact ⟨by rw [cell_of_row _ _ 0 _ _ _ hr]; rfl, h1⟩
    | 1, hk =>
      simp only [List.getElem?_cons_succ, List.getElem?_cons_zero, Option.some.injEq] at hk
      subst hk
      exact ⟨by rw [cell_of_row _ _ 1 _ _ _ hr]; rfl, h2⟩
    | k + 2, hk => simp at hk
  have := concat_any [(v1, l1), (v2, l2)] B 2 D w hps hD (by rw [hall, ← he, List.length_append]; omega) (by simp)
  rw [hall, show [(v1, l1), (v2, l2)].length = 2 from rfl] at this
  exact this

set_option maxRecDepth 100000 in
set_option maxHeartbeats 3200000 in
theorem delete_any (l : List V) (v : Value) (i : Int) (w : World) (h : VL T w l v) (hl : sizeL l ≤ 1073741824) : Calls Try.prog 24 #[v, .int .i64 i] w (MadePost w (pDel l i)) := by
  have hll := len_le_sizeL l
  have hth := there_any l v i w h (by omega)
  obtain ⟨a, c, us, rfl, hlc, hcm, -⟩ := id h
  have hI : (l.length : Int) ≤ 1073741824 := by omega
  unfold MadePost
  by_cases ht : isThere l i = true
  · obtain ⟨k, rfl, hkl⟩ := there_iff ht
    have hp : pDel l ((k : Int) + 1) = pMade (l.take k ++ l.drop (k + 1)) := by
      unfold pDel
      rw [if_pos ht, show ((k : Int) + 1 - 1).toNat = k by omega, show ((k : Int) + 1).toNat = k + 1 by omega]
    have hs : sizeL (l.take k ++ l.drop (k + 1)) ≤ 1099511627776 := by
      have h1 := sizeL_drop l k
      have h2 := sizeL_drop l (k + 1)
      rw [sizeL_app]
      omega
    rw [ht] at hth
    have HP := hid hp; have HS := hid hs; have HTH := hid hth; have HV := hid h
    have hk1 : k ≤ l.length := by omega
    have hk2 : k + 1 ≤ l.length := by omega
    have hk3 : k + 1 ≤ c := by omega
    have hk4 : k ≤ c := by omega
    have hk5 : ¬ (k : Int) + 1 < 0 := by omega
    have hk6 : ((k : Int) + 1).toNat = k + 1 := by omega
    have hk7 : (k : Int) + 1 ≤ l.length := by omega
    clear hp hs hth h ht hl hll
    go_enter Try.func24, Try.ntmps24
    go_wp2_with fail
    refine HTH.out.mono ?_
    rintro e w2 ⟨rfl, rfl⟩
    go_upto_region 3 with fail
    refine wp_region_ord [(0, 0), (1, 0), (2, 0), (3, 0), (4, 0), (5, 0), (6, 0), (7, 1), (8, 1), (9, 1), (10, 0), (11, 0), (12, 0), (13, 0)] (fun _ => True) (by kernel_rfl) (by kernel_rfl) (by kernel_rfl) rfl (fun _ _ d _ _ h => by cases d <;> exact h) trivial ?_
    have hw : IntKind.i64.wrap (k : Int) = k := IntWalk.i64_in _ (by omega)
    iterate 7 (refine wpO_take ?_ rfl (by kernel_rfl) ?_ ?_; rotate_left; (· intro w' hS; go_simp; try with_reducible rfl); try simp only [Act.put, List.setIfInBounds_toArray, List.set_cons_zero, List.set_cons_succ])
    (refine wpO_run rfl (by kernel_rfl) (fun K hK => ?_); go_simp; refine hK _ _ (fun _ => trivial) ?_; clear hK K; try simp only [Act.put, List.setIfInBounds_toArray, List.set_cons_zero, List.set_cons_succ])
    have hf2 : Fr (fun _ => False) w (w.alloc (.cells #[.slice a k c, .slice (if c = k + 1 then a else Option.map (fun x => x.add ((k + 1) * 4)) a) (l.length - (k + 1)) (c - (k + 1))] 22)).drew := ((Fr.refl (fun _ => False) w).alloc _).drew
    have hrb : (w.alloc (.cells #[.slice a k c, .slice (if c = k + 1 then a else Option.map (fun x => x.add ((k + 1) * 4)) a) (l.length - (k + 1)) (c - (k + 1))] 22)).drew.heap[w.heap.size]? = some (.cells #[.slice a k c, .slice (if c = k + 1 then a else Option.map (fun x => x.add ((k + 1) * 4)) a) (l.length - (k + 1)) (c - (k + 1))] 22) := heap_alloc_new w _
    have hsz : w.heap.size < (w.alloc (.cells #[.slice a k c, .slice (if c = k + 1 then a else Option.map (fun x => x.add ((k + 1) * 4)) a) (l.length - (k + 1)) (c - (k + 1))] 22)).drew.heap.size := heap_lt hrb
    generalize (w.alloc (.cells #[.slice a k c, .slice (if c = k + 1 then a else Option.map (fun x => x.add ((k + 1) * 4)) a) (l.length - (k + 1)) (c - (k + 1))] 22)).drew = W2 at *
    have hV2 := HV.out.lt.frame hf2 fun _ _ => not_false
    obtain ⟨L, hL⟩ : ∃ L, l.take k ++ l.drop (k + 1) = L := ⟨_, rfl⟩
    rw [hL] at HS HP
    have hcl := concat2 (l.take k) (l.drop (k + 1)) _ _ w.heap.size (fun q => q < w.heap.size) W2 _ hrb (hV2.upto k hk1) (hV2.rest (k + 1) hk2) (fun q hq => by omega) (by simp; omega) L hL
    have HF2 := hid hf2
    have HCL := hid hcl
    clear hL hcl hf2 hrb hsz hV2
    refine wpO_run rfl (by kernel_rfl) (fun K hK => ?_); go_simp
    refine HCL.out.mono ?_
    rintro e w3 ⟨v3, us3, rfl, ho3, hc3, hf3⟩
    have hv3 := hc3.own ho3
    obtain ⟨a3, c3, us4, rfl, -⟩ := id hv3
    refine hK _ _ (fun _ => trivial) ?_
    clear hK K
    try simp only [Act.put, List.setIfInBounds_toArray, List.set_cons_zero, List.set_cons_succ]
    have HF3 := hid (HF2.out.trans' hf3); have HV3 := hid hv3
    clear ho3 hc3 hf3 hv3
    refine wpO_run rfl (by kernel_rfl) (fun K hK => ?_); go_simp
    refine (made_any _ HS.out _ w3 _ HV3.out).mono ?_
    rintro e w4 ⟨v4, rfl, hf4, hv4⟩
    obtain ⟨a4, c4, us4, rfl, -⟩ := id hv4
    refine hK _ _ (fun _ => trivial) ?_
    clear hK K
    try simp only [Act.put, List.setIfInBounds_toArray, List.set_cons_zero, List.set_cons_succ]
    have HF4 := hid (HF3.out.trans' hf4); have HV4 := hid hv4
    clear hf4 hv4
    iterate 4 (refine wpO_take ?_ rfl (by kernel_rfl) ?_ ?_; rotate_left; (· intro w' hS; go_simp; try with_reducible rfl); try simp only [Act.put, List.setIfInBounds_toArray, List.set_cons_zero, List.set_cons_succ])
    refine wpO_end ?_
    go_wp2_with fail
    all_goals
      go_ret2
      exact ⟨_, by rw [HP.out]; rfl, HF4.out, by rw [HP.out]; exact HV4.out.t⟩
  · have hp : pDel l i = ([], 10) := by unfold pDel; rw [if_neg ht]
    rw [Bool.eq_false_iff.2 ht] at hth
    have HP := hid hp; have HTH := hid hth
    clear hp ht hth h hl hll
    go_enter Try.func24, Try.ntmps24
    go_wp2_with fail
    refine HTH.out.mono ?_
    rintro e w2 ⟨rfl, rfl⟩
    go_wp2_with fail
    go_ret2
    exact ⟨_, by rw [HP.out]; rfl, Fr.refl _ _, by rw [HP.out]; exact VL.nil _ _⟩
end Go.Proofs.Ytebanmigaikhhaa
