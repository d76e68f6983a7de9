/- Package seq: Cut, Put, Insert, Delete, Cat. -/
import Derived.Test.YtebanmigaikhhaaSeqD
namespace Go.Proofs.Ytebanmigaikhhaa
open Go.RowKit

theorem sizeL_app (l m : List V) : sizeL (l ++ m) = sizeL l + sizeL m := by
  induction l with
  | nil => simp [sizeL]
  | cons x r ih => simp [sizeL, ih]; omega
theorem sizeL_drop (l : List V) (i : Nat) : sizeL (l.take i) + sizeL (l.drop i) = sizeL l := by
  rw [← sizeL_app, List.take_append_drop]
/-- What a walk that ends in made says. -/
def MadePost (w : World) (p : List V × Int) (e : Ending) (w' : World) : Prop := ∃ v', e = .returned (.tuple #[v', .int .i64 p.2]) ∧ Fr (fun _ => False) w w' ∧ VL T w' p.1 v'

set_option maxRecDepth 100000 in
set_option maxHeartbeats 1600000 in
theorem cut_any (l : List V) (v : Value) (i j : Int) (w : World) (h : VL T w l v) (hl : sizeL l ≤ 1073741824) : Calls Try.prog 18 #[v, .int .i64 i, .int .i64 j] w (MadePost w (pCut l i j)) := by
  have hll := len_le_sizeL l
  obtain ⟨a, c, us, rfl, hc, hm, -⟩ := id h
  have hI : (l.length : Int) ≤ 1073741824 := by omega
  unfold MadePost
  by_cases h1 : j < i
  · have hp : pCut l i j = ([], 0) := by unfold pCut; rw [if_pos h1]
    have HP := hid hp
    clear h hp hl hll hc hm
    go_enter Try.func18, Try.ntmps18
    go_wp2_with fail
    go_ret2
    exact ⟨_, by rw [HP.out]; rfl, Fr.refl _ _, by rw [HP.out]; exact VL.nil _ _⟩
  · by_cases h2 : i < 1
    · have hp : pCut l i j = ([], 10) := by unfold pCut; rw [if_neg h1, if_pos (.inl h2)]
      have HP := hid hp
      clear h hp hl hll hc hm
      go_enter Try.func18, Try.ntmps18
      go_wp2_with fail
      go_ret2
      exact ⟨_, by rw [HP.out]; rfl, Fr.refl _ _, by rw [HP.out]; exact VL.nil _ _⟩
    · by_cases h3 : (l.length : Int) < j
      · have hp : pCut l i j = ([], 10) := by unfold pCut; rw [if_neg h1, if_pos (.inr h3)]
        have HP := hid hp
        clear h hp hl hll hc hm
        go_enter Try.func18, Try.ntmps18
        go_wp2_with fail
        go_ret2
        exact ⟨_, by rw [HP.out]; rfl, Fr.refl _ _, by rw [HP.out]; exact VL.nil _ _⟩
      · obtain ⟨p, rfl⟩ : ∃ p : Nat, i = (p : Int) + 1 := ⟨(i - 1).toNat, by omega⟩
        obtain ⟨q, rfl⟩ : ∃ q : Nat, j = q := ⟨j.toNat, by omega⟩
        have hp : pCut l ((p : Int) + 1) q = pMade ((l.take q).drop p) := by
          unfold pCut
          rw [if_neg h1, if_neg (by omega), show ((p : Int) + 1 - 1).toNat = p by omega]
          rfl
        have hs : sizeL ((l.take q).drop p) ≤ 1099511627776 := by
          have h4 := sizeL_drop (l.take q) p
          have h5 := sizeL_drop l q
          omega
        have HP := hid hp; have HS := hid hs; have HH := hid h
        have hpq : p ≤ q := by omega
        have hql : q ≤ l.length := by omega
        have hqc : q ≤ c := by omega
        clear hp h hl hll hs hm
        go_enter Try.func18, Try.ntmps18
        go_wp2_with fail
        have hsub := VL.sub (a' := Option.map (fun x => x.add (p * 4)) a) (c' := c - p) (len' := q - p) HH.out p q hpq hql rfl rfl (by rw [if_neg (by omega)])
        refine (made_any _ HS.out T w _ hsub).mono ?_
        rintro e w2 ⟨v', rfl, hf2, hv2⟩
        have HF2 := hid hf2; have HV2 := hid hv2
        clear hsub hf2 hv2
        go_wp2_with fail
        go_ret2
        exact ⟨_, by rw [HP.out]; rfl, HF2.out, by rw [HP.out]; exact HV2.out.t⟩
/-- The row a VL writes into. -/
theorem VC.set {D : Nat → Prop} {w : World} {l : List V} {us : List Value} (h : VC D w l us) (k : Nat) (x : V) (hk : k < l.length) (c0 c1 c2 c3 : Value) (hx : VIn D w x #[c0, c1, c2, c3]) : VC D w (l.set k x) ((((us.set (k * 4) c0).set (k * 4 + 1) c1).set (k * 4 + 2) c2).set (k * 4 + 3) c3) := by
  refine ⟨by simp [h.1], fun i y hy => ?_⟩
  have hul := h.1
  by_cases hik : i = k
  · subst hik
    rw [List.getElem?_set_self hk] at hy
    cases hy
    refine ⟨_, hx, rfl, fun j hj => ?_⟩
    obtain rfl | rfl | rfl | rfl : j = 0 ∨ j = 1 ∨ j = 2 ∨ j = 3 := by omega
    · rw [List.getElem?_set_ne (by omega), List.getElem?_set_ne (by omega), List.getElem?_set_ne (by omega), Nat.add_zero, List.getElem?_set_self (by omega)]; rfl
    · rw [List.getElem?_set_ne (by omega), List.getElem?_set_ne (by omega), List.getElem?_set_self (by simp; omega)]; rfl
    · rw [List.getElem?_set_ne (by omega), List.getElem?_set_self (by simp; omega)]; rfl
    · rw [List.getElem?_set_self (by simp; omega)]; rfl
  · rw [List.getElem?_set_ne (fun e => hik e.symm)] at hy
    obtain ⟨u, a, b, c⟩ := h.2 i y hy
    refine ⟨u, a, b, fun j hj => ?_⟩
    rw [List.getElem?_set_ne (by omega), List.getElem?_set_ne (by omega), List.getElem?_set_ne (by omega), List.getElem?_set_ne (by omega)]
    exact c j hj

set_option maxRecDepth 100000 in
set_option maxHeartbeats 1600000 in
theorem cat_any (l m : List V) (v v2 : Value) (w : World) (h : VL T w l v) (h' : VL T w m v2) (hl : sizeL l ≤ 1073741824) (hm : sizeL m ≤ 1073741824) : Calls Try.prog 19 #[v, v2] w (MadePost w (pCat l m)) := by
  have hf := (Fr.refl (fun _ => False) w).alloc (.cells #[v, v2] 22)
  have hr := heap_alloc_new w (.cells #[v, v2] 22)
  have hll := len_le_sizeL l
  have hlm := len_le_sizeL m
  have hall : allP [(v, l), (v2, m)] = l ++ m := by simp [allP]
  have hps : ∀ (k : Nat) p, [(v, l), (v2, m)][k]? = some p → (w.alloc (.cells #[v, v2] 22)).cell? ⟨w.heap.size, k, none⟩ = some p.1 ∧ VL (fun k => k < w.heap.size) (w.alloc (.cells #[v, v2] 22)) p.2 p.1 := by
    intro k p hk
    match k, hk with
    | 0, hk =>
      simp only [List.getElem?_cons_zero, Option.some.injEq] at hk
      subst hk
      refine ⟨?_, h.lt.frame hf fun _ _ => not_false⟩
      rw [cell_of_row _ _ 0 _ _ _ hr]
      rfl
    | 1, hk =>
      simp only [List.getElem?_cons_succ, List.getElem?_cons_zero, Option.some.injEq] at hk
      subst hk
      refine ⟨?_, h'.lt.frame hf fun _ _ => not_false⟩
      rw [cell_of_row _ _ 1 _ _ _ hr]
      rfl
    | k + 2, hk => simp at hk
  have hcl := concat_any [(v, l), (v2, m)] w.heap.size 2 (fun k => k < w.heap.size) (w.alloc (.cells #[v, v2] 22)) hps (fun k hk => Nat.lt_of_lt_of_le hk hf.size) (by rw [hall, List.length_append]; omega) (by simp)
  rw [hall, show [(v, l), (v2, m)].length = 2 from rfl] at hcl
  have hs : sizeL (l ++ m) ≤ 1099511627776 := by rw [sizeL_app]; omega
  have HF := hid hf; have HCL := hid hcl; have HS := hid hs
  obtain ⟨a, c, us, rfl, -⟩ := id h
  obtain ⟨a2, c2, us2, rfl, -⟩ := id h'
  have HP := hid (show pCat l m = pMade (l ++ m) from rfl)
  unfold MadePost
  clear h h' hl hm hf hr hll hlm hall hcl hs
  go_enter Try.func19, Try.ntmps19
  go_wp2_with fail
  refine HCL.out.mono ?_
  rintro e w2 ⟨v2, us9, rfl, ho2, hc2, hf2⟩
  have hv2 := hc2.own ho2
  obtain ⟨a9, c9, us8, rfl, -⟩ := id hv2
  rw [List.length_append] at hv2
  have HF2 := hid (HF.out.trans' hf2); have HV2 := hid hv2
  clear hf2 ho2 hc2 hv2
  go_wp2_with fail
  refine (made_any _ HS.out _ w2 _ HV2.out).mono ?_
  rintro e w3 ⟨v', rfl, hf3, hv3⟩
  have HF3 := hid (HF2.out.trans' hf3); have HV3 := hid hv3
  clear hf3 hv3
  go_wp2_with fail
  go_ret2
  exact ⟨_, by rw [HP.out]; rfl, HF3.out, by rw [HP.out]; exact HV3.out.t⟩
end Go.Proofs.Ytebanmigaikhhaa
