/- Package seq: Cut, Put, Insert, Delete, Cat. -/
import Derived.Test.YtjngddmjgcecnaaSeqD
namespace Go.Proofs.Ytjngddmjgcecnaa
open Go.RowKit

theorem sizeL_app (l m : List V) : sizeL (l ++ m) = sizeL l + sizeL m := by
  induction l with
  | nil => simp [sizeL]
  | cons x r ih => simp [sizeL, ih]; omega
theorem sizeL_drop (l : List V) (i : Nat) : sizeL (l.take i) + sizeL (l.drop i) = sizeL l := by
  rw [← sizeL_app, List.take_append_drop]
/-- What a walk that ends in made says. -/
def MadePost (w : World) (p : List V × Int) (e : Ending) (w' : World) : Prop := ∃ v', e = .returned (.tuple #[v', .int .i64 p.2]) ∧ Fr (fun _ => False) w w' ∧ VL T w' p.1 v'

set_option maxRecDepth 100000 in
set_option maxHeartbeats 1600000 in
theorem cut_any (l : List V) (v : Value) (i j : Int) (w : World) (h : VL T w l v) (hl : sizeL l ≤ 1073741824) : Calls Try.prog 42 #[v, .int .i64 i, .int .i64 j] w (MadePost w (pCut l i j)) := by
  have hll := len_le_sizeL l
  obtain ⟨a, c, us, rfl, hc, hm, -⟩ := id h
  have hI : (l.length : Int) ≤ 1073741824 := by omega
  unfold MadePost
  by_cases h1 : j < i
  · have hp : pCut l i j = ([], 0) := by unfold pCut; rw [if_pos h1]
    have HP := hid hp
    clear h hp hl hll hc hm
    go_enter Try.func42, Try.ntmps42
    go_wp2_with fail
    go_ret2
    exact ⟨_, by rw [HP.out]; rfl, Fr.refl _ _, by rw [HP.out]; exact VL.nil _ _⟩
  · by_cases h2 : i < 1
    · have hp : pCut l i j = ([], 10) := by unfold pCut; rw [if_neg h1, if_pos (.inl h2)]
      have HP := hid hp
      clear h hp hl hll hc hm
      go_enter Try.func42, Try.ntmps42
      go_wp2_with fail
      go_ret2
      exact ⟨_, by rw [HP.out]; rfl, Fr.refl _ _, by rw [HP.out]; exact VL.nil _ _⟩
    · by_cases h3 : (l.length : Int) < j
      · have hp : pCut l i j = ([], 10) := by unfold pCut; rw [if_neg h1, if_pos (.inr h3)]
        have HP := hid hp
        clear h hp hl hll hc hm
        go_enter Try.func42, Try.ntmps42
        go_wp2_with fail
        go_ret2
        exact ⟨_, by rw [HP.out]; rfl, Fr.refl _ _, by rw [HP.out]; exact VL.nil _ _⟩
      · obtain ⟨p, rfl⟩ : ∃ p : Nat, i = (p : Int) + 1 := ⟨(i - 1).toNat, by omega⟩
        obtain ⟨q, rfl⟩ : ∃ q : Nat, j = q := ⟨j.toNat, by omega⟩
        have hp : pCut l ((p : Int) + 1) q = pMade ((l.take q).drop p) := by
          unfold pCut
          rw [if_neg h1, if_neg (by omega), show ((p : Int) + 1 - 1).toNat = p by omega]
          rfl
        have hs : sizeL ((l.take q).drop p) ≤ 1099511627776 := by
          have h4 := sizeL_drop (l.take q) p
          have h5 := sizeL_drop l q
          omega
        have HP := hid hp; have HS := hid hs; have HH := hid h
        have hpq : p ≤ q := by omega
        have hql : q ≤ l.length := by omega
        have hqc : q ≤ c := by omega
        clear hp h hl hll hs hm
        go_enter Try.func42, Try.ntmps42
        go_wp2_with fail
        have hsub := VL.sub (a' := Option.map (fun x => x.add (p * 4)) a) (c' := c - p) (len' := q - p) HH.out p q hpq hql rfl rfl (by rw [if_neg (by omega)])
        refine (made_any _ HS.out T w _ hsub).mono ?_
        rintro e w2 ⟨v', rfl, hf2, hv2⟩
        have HF2 := hid hf2; have HV2 := hid hv2
        clear hsub hf2 hv2
        go_wp2_with fail
        go_ret2
        exact ⟨_, by rw [HP.out]; rfl, HF2.out, by rw [HP.out]; exact HV2.out.t⟩
/-- The row a VL writes into. -/
theorem VC.set {D : Nat → Prop} {w : World} {l : List V} {us : List Value} (h : VC D w l us) (k : Nat) (x : V) (hk : k < l.length) (c0 c1 c2 c3 : Value) (hx : VIn D w x #[c0, c1, c2, c3]) : VC D w (l.set k x) ((((us.set (k * 4) c0).set (k * 4 + 1) c1).set (k * 4 + 2) c2).set (k * 4 + 3) c3) := by
  refine ⟨by simp [h.1], fun i y hy => ?_⟩
  have hul := h.1
  by_cases hik : i = k
  · subst hik
    rw [List.getElem?_set_self hk] at hy
    cases hy
    refine ⟨_, hx, rfl, fun j hj => ?_⟩
    obtain rfl | rfl | rfl | rfl : j = 0 ∨ j = 1 ∨ j = 2 ∨ j = 3 := by omega
    · rw [List.getElem?_set_ne (by omega), List.getElem?_set_ne (by omega), List.getElem?_set_ne (by omega), Nat.add_zero, List.getElem?_set_self (by omega)]; rfl
    · rw [List.getElem?_set_ne (by omega), List.getElem?_set_ne (by omega), List.getElem?_set_self (by simp; omega)]; rfl
    · rw [List.getElem?_set_ne (by omega), List.getElem?_set_self (by simp; omega)]; rfl
    · rw [List.getElem?_set_self (by simp; omega)]; rfl
  · rw [List.getElem?_set_ne (fun e => hik e.symm)] at hy
    obtain ⟨u, a, b, c⟩ := h.2 i y hy
    refine ⟨u, a, b, fun j hj => ?_⟩
    rw [List.getElem?_set_ne (by omega), List.getElem?_set_ne (by omega), List.getElem?_set_ne (by omega), List.getElem?_set_ne (by omega)]
    exact c j hj

end Go.Proofs.Ytjngddmjgcecnaa
