/- val.walk, val.Valid: which error a value has. -/
import Derived.Test.YteihmagldhmjgaaDoorVOwnErr
namespace Go.Proofs.YteihmagldhmjgaaDoor
open Go.RowKit

def strOf (k : Int) (s : ByteArray) : Nat := if k = 2 then s.size else 0
mutual
def V.vw : V → Nat → Nat → Int × Nat
  | .mk k n s l, deep, left => if 40 < deep then (112, left) else if left ≤ strOf k s then (104, left) else
    if ownCode k n s l.isEmpty = 0 then vwL l (deep + 1) (left - (1 + strOf k s)) else (ownCode k n s l.isEmpty, left - (1 + strOf k s))
def vwL : List V → Nat → Nat → Int × Nat
  | [], _, left => (0, left)
  | x :: r, deep, left => if (V.vw x deep left).1 = 0 then vwL r deep (V.vw x deep left).2 else V.vw x deep left
end
theorem V.vw_eq (x : V) (deep left : Nat) : x.vw deep left = if 40 < deep then (112, left) else if left ≤ strOf x.k x.s then (104, left) else
    if ownCode x.k x.n x.s x.l.isEmpty = 0 then vwL x.l (deep + 1) (left - (1 + strOf x.k x.s)) else (ownCode x.k x.n x.s x.l.isEmpty, left - (1 + strOf x.k x.s)) := by
  cases x; simp only [V.vw, V.k, V.n, V.s, V.l]; rfl
theorem vwL_drop (l : List V) (k deep z : Nat) (x : V) (h : l[k]? = some x) : vwL (l.drop k) deep z = if (x.vw deep z).1 = 0 then vwL (l.drop (k + 1)) deep (x.vw deep z).2 else x.vw deep z := by
  have hk := (List.getElem?_eq_some_iff.1 h).1
  rw [List.drop_eq_getElem_cons hk]
  have : l[k] = x := (List.getElem?_eq_some_iff.1 h).2
  rw [this, vwL]
mutual
theorem V.vw_le : ∀ (x : V) (deep left : Nat), (x.vw deep left).2 ≤ left
  | .mk k n s l, deep, left => by
    have h2 := vwL_le l (deep + 1) (left - (1 + strOf k s))
    simp only [V.vw]
    repeat' split
    all_goals try simp only
    all_goals omega
theorem vwL_le : ∀ (l : List V) (deep left : Nat), (vwL l deep left).2 ≤ left
  | [], deep, left => by simp [vwL]
  | x :: r, deep, left => by
    have h1 := V.vw_le x deep left
    have h2 := vwL_le r deep (x.vw deep left).2
    simp only [vwL]
    split <;> omega
end

def IsErr (e : Value) : Prop := ∃ t v, e = .iface t v
theorem ev_iface {eD eM eR eS : Value} (h1 : IsErr eD) (h2 : IsErr eM) (h3 : IsErr eR) (h4 : IsErr eS) {n : Int} (hn : n ≠ 0) : IsErr (ev eD eM eR eS n) := by
  unfold ev
  rw [if_neg hn]
  repeat' split
  all_goals assumption

/-- What one call of walk leaves: the block B holds what is left. -/
def VwPost (eD eM eR eS : Value) (B : Nat) (w : World) (r : Int × Nat) (e : Ending) (w' : World) : Prop :=
  e = .returned (ev eD eM eR eS r.1) ∧ Fr (fun b => b = B) w w' ∧ w'.heap[B]? = some (.cells #[.int .i64 r.2] 3)

set_option maxHeartbeats 3200000 in
theorem vw_any (eD eM eR eS : Value) (i1 : IsErr eD) (i2 : IsErr eM) (i3 : IsErr eR) (i4 : IsErr eS) : ∀ (N : Nat) (x : V), x.size ≤ N → ∀ (B : Nat) (w : World) (u : Array Value) (deep left : Nat), VIn (fun b => b ≠ B) w x u → deep ≤ 41 → x.size ≤ 1099511627776 → left ≤ 1099511627776 →
    w.heap[B]? = some (.cells #[.int .i64 left] 3) → Errs w eD eM eR eS → 7 ≤ B →
    Calls Tryd.prog 108 #[.agg u, .int .i64 deep, .pointer (some ⟨B, 0, none⟩)] w (VwPost eD eM eR eS B w (x.vw deep left)) := by
  have HI4 := hid (fun n (hn : n ≠ 0) => ev_iface i1 i2 i3 i4 hn)
  clear i1 i2 i3 i4
  intro N
  induction N with
  | zero =>
    intro x h
    rw [V.size_eq] at h
    omega
  | succ N ih =>
    intro x hN B w u deep left h hd hM hz hB hE hB4
    have hs := V.size_eq x
    rw [V.vw_eq]
    have hown := fun (w' : World) (hv : VIn (fun b => b ≠ B) w' x u) (he : Errs w' eD eM eR eS) => vown_any x _ w' u hv (by omega) eD eM eR eS he
    have hvx := h
    obtain ⟨v, rfl, a, cap, us, rfl, hc, hm, hn, hb, hi⟩ := h.open
    have hlm : x.l.length ≤ 9223372036854775807 := Nat.le_trans hc hm
    have hsm : x.s.size ≤ 1099511627776 := by omega
    generalize x.k = kk at *
    generalize x.n = nn at *
    generalize x.s = ss at *
    generalize x.l = l at *
    have hBlt : B < w.heap.size := (Array.getElem?_eq_some_iff.1 hB).1
    have hF1 : Fr (fun b => b = B) w (w.alloc (.cells #[.int .i64 kk, .int .i64 nn, .string ss, .slice a l.length cap] 26)) := (Fr.refl _ _).alloc _
    have hB1 := ((Fr.refl (fun _ => False) w).alloc (.cells #[.int .i64 kk, .int .i64 nn, .string ss, .slice a l.length cap] 26)).heap hB not_false
    have hbx1 : (w.alloc (.cells #[.int .i64 kk, .int .i64 nn, .string ss, .slice a l.length cap] 26)).heap[w.heap.size]? = some (.cells #[.int .i64 kk, .int .i64 nn, .string ss, .slice a l.length cap] 26) := heap_alloc_new w _
    have hE1 := hE.frame ((Fr.refl (fun _ => False) w).alloc (.cells #[.int .i64 kk, .int .i64 nn, .string ss, .slice a l.length cap] 26)) (fun _ _ => id)
    have g0 := hE1.d
    have g1 := hE1.m
    have dB : (w.alloc (.cells #[.int .i64 kk, .int .i64 nn, .string ss, .slice a l.length cap] 26)).cell? ⟨B, 0, none⟩ = some (.int .i64 left) := by rw [cell_of_row _ _ 0 _ _ _ hB1]; rfl
    have fB : (w.alloc (.cells #[.int .i64 kk, .int .i64 nn, .string ss, .slice a l.length cap] 26)).frozen? ⟨B, 0, none⟩ = false := frozen_of_row _ _ 0 _ _ hB1
    obtain ⟨m, hmm⟩ : ∃ m, m = strOf kk ss := ⟨_, rfl⟩
    obtain ⟨cc, hcc⟩ : ∃ cc, cc = ownCode kk nn ss l.isEmpty := ⟨_, rfl⟩
    rw [← hmm, ← hcc]
    rw [← hcc] at hown
    have hmle : m ≤ ss.size := by rw [hmm]; unfold strOf; split <;> omega
    obtain ⟨r, hr⟩ : ∃ r, r = if 40 < deep then (112, left) else if left ≤ m then (104, left) else if cc = 0 then vwL l (deep + 1) (left - (1 + m)) else (cc, left - (1 + m)) := ⟨_, rfl⟩
    rw [← hr]
    have HB := hid hb; have HI := hid hi; have HS := hid hs; have HM := hid hM; have HN := hid hN; have HR := hid hr; have HV := hid hvx; have HO := hid hown; have HE := hid hE; have HF1 := hid hF1; have HB1 := hid hB1; have HBX := hid hbx1; have HIH := hid ih; have HMM := hid hmm
    clear hb hi hs hM hN h hn hr hvx hown hE hF1 hB hB1 hbx1 hE1 hcc ih hmm
    by_cases h1 : 40 < deep
    · go_enter Tryd.func108, Tryd.ntmps108
      go_wp2
      go_ret
      rw [HR.out, if_pos h1]
      exact ⟨rfl, HF1.out, HB1.out⟩
    have hr := HR.out
    rw [if_neg h1] at hr
    have HR' := hid hr
    have H1 := hid h1
    clear HR hr g0
    go_enter Tryd.func108, Tryd.ntmps108
    go_upto_if 17 with fail
    generalize hW1 : w.alloc (.cells #[.int .i64 kk, .int .i64 nn, .string ss, .slice a l.length cap] 26) = W1 at HF1 HB1 HBX g1 dB fB ⊢
    go_cut [7] from 17 to 20 (fun c wx => c = .int .i64 m ∧ wx = W1)
    case first =>
      have d2 : W1.cell? ⟨w.heap.size, 2, none⟩ = some (.string ss) := by rw [cell_of_row _ _ 2 _ _ _ HBX.out]; rfl
      by_cases k2 : kk = 2
      · subst k2
        go_wp2_with fail
        go_meet
        exact ⟨by rw [HMM.out]; rfl, rfl⟩
      · have q2 : (kk == 2) = false := by simpa using k2
        go_wp2_with fail
        go_meet
        exact ⟨by rw [HMM.out, strOf, if_neg k2]; rfl, rfl⟩
    case rest =>
    obtain ⟨rfl, rfl⟩ := hcut
    by_cases hlm2 : (left : Int) ≤ m
    · have hr := HR'.out
      rw [if_pos (by omega)] at hr
      subst hr
      go_wp2
      go_ret
      exact ⟨rfl, HF1.out, HB1.out⟩
    have hr := HR'.out
    rw [if_neg (by omega)] at hr
    obtain ⟨z, hz1, hz2⟩ : ∃ z : Nat, (left : Int) - (1 + m) = z ∧ z = left - (1 + m) := ⟨left - (1 + m), by omega, rfl⟩
    rw [← hz2] at hr
    have HR := hid hr; have HZ := hid hz1; have HZL := hid (show z ≤ left by omega)
    clear HR' hr hz1 hz2
    go_upto_region 9 with fail
    rw [HZ.out]
    have hF2 : Fr (fun b => b = B) w (wc.setCell ⟨B, 0, none⟩ (.int .i64 z)) := HF1.out.setCell (p := ⟨B, 0, none⟩) (.inl rfl) _
    have hW2 : Fr (fun b => b = B) wc (wc.setCell ⟨B, 0, none⟩ (.int .i64 z)) := (Fr.refl (fun b => b = B) wc).setCell (p := ⟨B, 0, none⟩) (.inl rfl) _
    have hB2 := setCell_row 0 (.int .i64 z) HB1.out
    have hbx2 := hW2.heap HBX.out (by omega)
    simp only [List.setIfInBounds_toArray, List.set_cons_zero] at hB2
    generalize wc.setCell ⟨B, 0, none⟩ (.int .i64 z) = W2 at *
    have hV2 := HV.out.frame hF2 (fun _ h => h)
    have hE2 := HE.out.frame hF2 (fun k hk e => by omega)
    have hO2 := HO.out W2 hV2 hE2
    have d0 : W2.cell? ⟨w.heap.size, 0, none⟩ = some (.int .i64 kk) := by rw [cell_of_row _ _ 0 _ _ _ hbx2]; rfl
    have d1 : W2.cell? ⟨w.heap.size, 1, none⟩ = some (.int .i64 nn) := by rw [cell_of_row _ _ 1 _ _ _ hbx2]; rfl
    have d2 : W2.cell? ⟨w.heap.size, 2, none⟩ = some (.string ss) := by rw [cell_of_row _ _ 2 _ _ _ hbx2]; rfl
    have d3 : W2.cell? ⟨w.heap.size, 3, none⟩ = some (.slice a l.length cap) := by rw [cell_of_row _ _ 3 _ _ _ hbx2]; rfl
    have HF2 := hid hF2; have HB2 := hid hB2; have HX2 := hid hbx2; have HO2 := hid hO2
    clear hF2 hW2 hB2 hbx2 hV2 hE2 hO2 HF1 HB1 HBX dB fB g1 HO
    go_wp2_with fail
    refine HO2.out.mono ?_
    rintro e W3 ⟨rfl, hf3⟩
    have hF3 := HF2.out.trans hf3 (fun _ _ h => h) (fun _ _ h => h.elim)
    have hB3 := hf3.heap HB2.out not_false
    have hX3 := hf3.heap HX2.out not_false
    have d3 : W3.cell? ⟨w.heap.size, 3, none⟩ = some (.slice a l.length cap) := by rw [cell_of_row _ _ 3 _ _ _ hX3]; rfl
    have HF3 := hid hF3; have HB3 := hid hB3
    clear hF3 hB3 hX3 hf3 HF2 HB2 HX2 HO2 d0 d1 d2
    by_cases hc0 : cc = 0
    case neg =>
      have hr := HR.out
      rw [if_neg hc0] at hr
      subst hr
      have he := HI4.out cc hc0
      obtain ⟨t, v, he⟩ := he
      rw [he]
      go_wp2
      go_ret
      exact ⟨congrArg Ending.returned he.symm, HF3.out, HB3.out⟩
    have hr := HR.out
    rw [if_pos hc0] at hr
    have HR' := hid hr
    clear HR hr
    subst hc0
    rw [show ev eD eM eR eS 0 = .nilIface from rfl]
    go_wp2_with fail
    go_loopw [42] (fun i wr => ∃ k zk : Nat, k ≤ l.length ∧ i = .int .i64 k ∧ Fr (fun b => b = B) W3 wr ∧ wr.heap[B]? = some (.cells #[.int .i64 zk] 3) ∧ zk ≤ z ∧ vwL l (deep + 1) z = vwL (l.drop k) (deep + 1) zk) (fun i _ => l.length - (intOf i).toNat)
    case atStart => exact ⟨0, z, Nat.zero_le _, rfl, Fr.refl _ _, HB3.out, Nat.le_refl _, rfl⟩
    case round =>
      obtain ⟨k, zk, hk, rfl, hf, hzk, hle, heq⟩ := hrel
      by_cases hlt : k < l.length
      · obtain ⟨b, o, y, a', c', rfl, hbB, hy, hv, e0, e1, e2, e3⟩ := VL.elem HB.out HI.out k hlt
        have hf0 := HF3.out.trans' hf
        replace e0 := hf0.cell e0 hbB
        replace e1 := hf0.cell e1 hbB
        replace e2 := hf0.cell e2 hbB
        replace e3 := hf0.cell e3 hbB
        have hA : ∀ o : Obj, Fr (fun _ => False) wr (wr.alloc o) := fun o => (Fr.refl _ _).alloc _
        have hv2 := fun o => (hv.frame hf0 (fun _ h => h)).frame (hA o) (fun _ _ => id)
        have hE2 := fun o => (HE.out.frame hf0 (fun k hk e => by omega)).frame (hA o) (fun _ _ => id)
        have hzk2 := fun o => (hA o).heap hzk not_false
        have t2 := sizeL_mem hy
        have hy1 : y.size ≤ N := by have := HS.out; have := HN.out; omega
        have hod := vwL_drop l k (deep + 1) zk y hy
        have hole := y.vw_le (deep + 1) zk
        have hc := fun o => HIH.out y hy1 B (wr.alloc o) _ (deep + 1) zk (hv2 o) (by have := H1.out; omega) (by have := HM.out; have := HS.out; omega) (by have := HZL.out; omega) (hzk2 o) (hE2 o) hB4
        rw [hod] at heq
        have HE9 := hid heq; have HFr := hid hf; have HC := hid hc; have HO9 := hid hole
        clear hv t2 hf hf0 hv2 hE2 hzk2 hc hy1 hod heq hole hy hzk
        generalize y.vw (deep + 1) zk = ry at *
        go_wp2_with fail
        refine (HC.out _).mono ?_
        rintro e w2 ⟨rfl, hf2, hb2⟩
        have HF2 := hid (HFr.out.trans' (((Fr.refl _ wr).alloc _).trans' hf2)); have HB2 := hid hb2
        clear hf2 hb2
        by_cases hry : ry.1 = 0
        · have hev : ev eD eM eR eS ry.1 = .nilIface := by rw [hry]; rfl
          rw [hev]
          go_wp2
          go_roundw
          case rel => exact ⟨k + 1, ry.2, by omega, by go_num, HF2.out, HB2.out, by have := HO9.out; omega, by rw [HE9.out, if_pos hry]⟩
          case measure => simp [intOf]; omega
        · obtain ⟨t, v, he⟩ := HI4.out ry.1 hry
          rw [he]
          go_wp2
          go_ret
          have hrr := HR'.out
          rw [HE9.out, if_neg hry] at hrr
          rw [hrr]
          exact ⟨congrArg Ending.returned he.symm, HF3.out.trans' HF2.out, HB2.out⟩
      · go_wp2
        go_ret
        have hrr := HR'.out
        rw [heq, List.drop_of_length_le (by omega), vwL] at hrr
        rw [hrr]
        exact ⟨rfl, HF3.out.trans' hf, hzk⟩
end Go.Proofs.YteihmagldhmjgaaDoor
