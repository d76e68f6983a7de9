/- VWalk, RefRight, VValid, See0, See, TreeE, TreeF: several texts in one: a claim has at most 60 files -/
import Derived.Test.YtbegahbagnflnaaDoorMg06
import Derived.Test.YtbegahbagnflnaaDoorLib
import Derived.Test.YtbegahbagnflnaaDoorRegion
import Derived.LaidEql
import Derived.Test.YtbegahbagnflnaaDoorMg04
import Derived.Test.YtbegahbagnflnaaDoorMg05
import Derived.Deep.CutRange
namespace Go.Proofs.YtbegahbagnflnaaDoor
section
open Go.RowKit

def strOf (k : Int) (s : ByteArray) : Nat := if k = 2 then s.size else 0
mutual
def V.vw : V → Nat → Nat → Int × Nat
  | .mk k n s l, deep, left => if 40 < deep then (112, left) else if left ≤ strOf k s then (104, left) else
    if ownCode k n s l.isEmpty = 0 then vwL l (deep + 1) (left - (1 + strOf k s)) else (ownCode k n s l.isEmpty, left - (1 + strOf k s))
def vwL : List V → Nat → Nat → Int × Nat
  | [], _, left => (0, left)
  | x :: r, deep, left => if (V.vw x deep left).1 = 0 then vwL r deep (V.vw x deep left).2 else V.vw x deep left
end
theorem V.vw_eq (x : V) (deep left : Nat) : x.vw deep left = if 40 < deep then (112, left) else if left ≤ strOf x.k x.s then (104, left) else
    if ownCode x.k x.n x.s x.l.isEmpty = 0 then vwL x.l (deep + 1) (left - (1 + strOf x.k x.s)) else (ownCode x.k x.n x.s x.l.isEmpty, left - (1 + strOf x.k x.s)) := by
  cases x; simp only [V.vw, V.k, V.n, V.s, V.l]; rfl
theorem vwL_drop (l : List V) (k deep z : Nat) (x : V) (h : l[k]? = some x) : vwL (l.drop k) deep z = if (x.vw deep z).1 = 0 then vwL (l.drop (k + 1)) deep (x.vw deep z).2 else x.vw deep z := by
  have hk := (List.getElem?_eq_some_iff.1 h).1
  rw [List.drop_eq_getElem_cons hk]
  have : l[k] = x := (List.getElem?_eq_some_iff.1 h).2
  rw [this, vwL]
mutual
theorem V.vw_le : ∀ (x : V) (deep left : Nat), (x.vw deep left).2 ≤ left
  | .mk k n s l, deep, left => by
    have h2 := vwL_le l (deep + 1) (left - (1 + strOf k s))
    simp only [V.vw]
    repeat' split
    all_goals try simp only
    all_goals omega
theorem vwL_le : ∀ (l : List V) (deep left : Nat), (vwL l deep left).2 ≤ left
  | [], deep, left => by simp [vwL]
  | x :: r, deep, left => by
    have h1 := V.vw_le x deep left
    have h2 := vwL_le r deep (x.vw deep left).2
    simp only [vwL]
    split <;> omega
end

def IsErr (e : Value) : Prop := ∃ t v, e = .iface t v
theorem ev_iface {eD eM eR eS : Value} (h1 : IsErr eD) (h2 : IsErr eM) (h3 : IsErr eR) (h4 : IsErr eS) {n : Int} (hn : n ≠ 0) : IsErr (ev eD eM eR eS n) := by
  unfold ev
  rw [if_neg hn]
  repeat' split
  all_goals assumption

/-- What one call of walk leaves: the block B holds what is left. -/
def VwPost (eD eM eR eS : Value) (B : Nat) (w : World) (r : Int × Nat) (e : Ending) (w' : World) : Prop :=
  e = .returned (ev eD eM eR eS r.1) ∧ Fr (fun b => b = B) w w' ∧ w'.heap[B]? = some (.cells #[.int .i64 r.2] 3)

set_option maxHeartbeats 3200000 in
theorem vw_any (eD eM eR eS : Value) (i1 : IsErr eD) (i2 : IsErr eM) (i3 : IsErr eR) (i4 : IsErr eS) : ∀ (N : Nat) (x : V), x.size ≤ N → ∀ (B : Nat) (w : World) (u : Array Value) (deep left : Nat), VIn (fun b => b ≠ B) w x u → deep ≤ 41 → x.size ≤ 1099511627776 → left ≤ 1099511627776 →
    w.heap[B]? = some (.cells #[.int .i64 left] 3) → Errs w eD eM eR eS → 7 ≤ B →
    Calls Tryd.prog 115 #[.agg u, .int .i64 deep, .pointer (some ⟨B, 0, none⟩)] w (VwPost eD eM eR eS B w (x.vw deep left)) := by
  have HI4 := hid (fun n (hn : n ≠ 0) => ev_iface i1 i2 i3 i4 hn)
  clear i1 i2 i3 i4
  intro N
  induction N with
  | zero =>
    intro x h
    rw [V.size_eq] at h
    omega
  | succ N ih =>
    intro x hN B w u deep left h hd hM hz hB hE hB4
    have hs := V.size_eq x
    rw [V.vw_eq]
    have hown := fun (w' : World) (hv : VIn (fun b => b ≠ B) w' x u) (he : Errs w' eD eM eR eS) => vown_any x _ w' u hv (by omega) eD eM eR eS he
    have hvx := h
    obtain ⟨v, rfl, a, cap, us, rfl, hc, hm, hn, hb, hi⟩ := h.open
    have hlm : x.l.length ≤ 9223372036854775807 := Nat.le_trans hc hm
    have hsm : x.s.size ≤ 1099511627776 := by omega
    generalize x.k = kk at *
    generalize x.n = nn at *
    generalize x.s = ss at *
    generalize x.l = l at *
    have hBlt : B < w.heap.size := (Array.getElem?_eq_some_iff.1 hB).1
    have hF1 : Fr (fun b => b = B) w (w.alloc (.cells #[.int .i64 kk, .int .i64 nn, .string ss, .slice a l.length cap] 34)) := (Fr.refl _ _).alloc _
    have hB1 := ((Fr.refl (fun _ => False) w).alloc (.cells #[.int .i64 kk, .int .i64 nn, .string ss, .slice a l.length cap] 34)).heap hB not_false
    have hbx1 : (w.alloc (.cells #[.int .i64 kk, .int .i64 nn, .string ss, .slice a l.length cap] 34)).heap[w.heap.size]? = some (.cells #[.int .i64 kk, .int .i64 nn, .string ss, .slice a l.length cap] 34) := heap_alloc_new w _
    have hE1 := hE.frame ((Fr.refl (fun _ => False) w).alloc (.cells #[.int .i64 kk, .int .i64 nn, .string ss, .slice a l.length cap] 34)) (fun _ _ => id)
    have g0 := hE1.d
    have g1 := hE1.m
    have dB : (w.alloc (.cells #[.int .i64 kk, .int .i64 nn, .string ss, .slice a l.length cap] 34)).cell? ⟨B, 0, none⟩ = some (.int .i64 left) := by rw [cell_of_row _ _ 0 _ _ _ hB1]; rfl
    have fB : (w.alloc (.cells #[.int .i64 kk, .int .i64 nn, .string ss, .slice a l.length cap] 34)).frozen? ⟨B, 0, none⟩ = false := frozen_of_row _ _ 0 _ _ hB1
    obtain ⟨m, hmm⟩ : ∃ m, m = strOf kk ss := ⟨_, rfl⟩
    obtain ⟨cc, hcc⟩ : ∃ cc, cc = ownCode kk nn ss l.isEmpty := ⟨_, rfl⟩
    rw [← hmm, ← hcc]
    rw [← hcc] at hown
    have hmle : m ≤ ss.size := by rw [hmm]; unfold strOf; split <;> omega
    obtain ⟨r, hr⟩ : ∃ r, r = if 40 < deep then (112, left) else if left ≤ m then (104, left) else if cc = 0 then vwL l (deep + 1) (left - (1 + m)) else (cc, left - (1 + m)) := ⟨_, rfl⟩
    rw [← hr]
    have HB := hid hb; have HI := hid hi; have HS := hid hs; have HM := hid hM; have HN := hid hN; have HR := hid hr; have HV := hid hvx; have HO := hid hown; have HE := hid hE; have HF1 := hid hF1; have HB1 := hid hB1; have HBX := hid hbx1; have HIH := hid ih; have HMM := hid hmm
    clear hb hi hs hM hN h hn hr hvx hown hE hF1 hB hB1 hbx1 hE1 hcc ih hmm
    by_cases h1 : 40 < deep
    · go_enter Tryd.func115, Tryd.ntmps115
      go_wp2
      go_ret
      rw [HR.out, if_pos h1]
      exact ⟨rfl, HF1.out, HB1.out⟩
    have hr := HR.out
    rw [if_neg h1] at hr
    have HR' := hid hr
    have H1 := hid h1
    clear HR hr g0
    go_enter Tryd.func115, Tryd.ntmps115
    go_upto_if 17 with fail
    generalize hW1 : w.alloc (.cells #[.int .i64 kk, .int .i64 nn, .string ss, .slice a l.length cap] 34) = W1 at HF1 HB1 HBX g1 dB fB ⊢
    go_cut [7] from 17 to 20 (fun c wx => c = .int .i64 m ∧ wx = W1)
    case first =>
      have d2 : W1.cell? ⟨w.heap.size, 2, none⟩ = some (.string ss) := by rw [cell_of_row _ _ 2 _ _ _ HBX.out]; rfl
      by_cases k2 : kk = 2
      · subst k2
        go_wp2_with fail
        go_meet
        exact ⟨by rw [HMM.out]; rfl, rfl⟩
      · have q2 : (kk == 2) = false := by simpa using k2
        go_wp2_with fail
        go_meet
        exact ⟨by rw [HMM.out, strOf, if_neg k2]; rfl, rfl⟩
    case rest =>
    obtain ⟨rfl, rfl⟩ := hcut
    by_cases hlm2 : (left : Int) ≤ m
    · have hr := HR'.out
      rw [if_pos (by omega)] at hr
      subst hr
      go_wp2
      go_ret
      exact ⟨rfl, HF1.out, HB1.out⟩
    have hr := HR'.out
    rw [if_neg (by omega)] at hr
    obtain ⟨z, hz1, hz2⟩ : ∃ z : Nat, (left : Int) - (1 + m) = z ∧ z = left - (1 + m) := ⟨left - (1 + m), by omega, rfl⟩
    rw [← hz2] at hr
    have HR := hid hr; have HZ := hid hz1; have HZL := hid (show z ≤ left by omega)
    clear HR' hr hz1 hz2
    go_upto_region 9 with fail
    rw [HZ.out]
    have hF2 : Fr (fun b => b = B) w (wc.setCell ⟨B, 0, none⟩ (.int .i64 z)) := HF1.out.setCell (p := ⟨B, 0, none⟩) (.inl rfl) _
    have hW2 : Fr (fun b => b = B) wc (wc.setCell ⟨B, 0, none⟩ (.int .i64 z)) := (Fr.refl (fun b => b = B) wc).setCell (p := ⟨B, 0, none⟩) (.inl rfl) _
    have hB2 := setCell_row 0 (.int .i64 z) HB1.out
    have hbx2 := hW2.heap HBX.out (by omega)
    simp only [List.setIfInBounds_toArray, List.set_cons_zero] at hB2
    generalize wc.setCell ⟨B, 0, none⟩ (.int .i64 z) = W2 at *
    have hV2 := HV.out.frame hF2 (fun _ h => h)
    have hE2 := HE.out.frame hF2 (fun k hk e => by omega)
    have hO2 := HO.out W2 hV2 hE2
    have d0 : W2.cell? ⟨w.heap.size, 0, none⟩ = some (.int .i64 kk) := by rw [cell_of_row _ _ 0 _ _ _ hbx2]; rfl
    have d1 : W2.cell? ⟨w.heap.size, 1, none⟩ = some (.int .i64 nn) := by rw [cell_of_row _ _ 1 _ _ _ hbx2]; rfl
    have d2 : W2.cell? ⟨w.heap.size, 2, none⟩ = some (.string ss) := by rw [cell_of_row _ _ 2 _ _ _ hbx2]; rfl
    have d3 : W2.cell? ⟨w.heap.size, 3, none⟩ = some (.slice a l.length cap) := by rw [cell_of_row _ _ 3 _ _ _ hbx2]; rfl
    have HF2 := hid hF2; have HB2 := hid hB2; have HX2 := hid hbx2; have HO2 := hid hO2
    clear hF2 hW2 hB2 hbx2 hV2 hE2 hO2 HF1 HB1 HBX dB fB g1 HO
    go_wp2_with fail
    refine HO2.out.mono ?_
    rintro e W3 ⟨rfl, hf3⟩
    have hF3 := HF2.out.trans hf3 (fun _ _ h => h) (fun _ _ h => h.elim)
    have hB3 := hf3.heap HB2.out not_false
    have hX3 := hf3.heap HX2.out not_false
    have d3 : W3.cell? ⟨w.heap.size, 3, none⟩ = some (.slice a l.length cap) := by rw [cell_of_row _ _ 3 _ _ _ hX3]; rfl
    have HF3 := hid hF3; have HB3 := hid hB3
    clear hF3 hB3 hX3 hf3 HF2 HB2 HX2 HO2 d0 d1 d2
    by_cases hc0 : cc = 0
    case neg =>
      have hr := HR.out
      rw [if_neg hc0] at hr
      subst hr
      have he := HI4.out cc hc0
      obtain ⟨t, v, he⟩ := he
      rw [he]
      go_wp2
      go_ret
      exact ⟨congrArg Ending.returned he.symm, HF3.out, HB3.out⟩
    have hr := HR.out
    rw [if_pos hc0] at hr
    have HR' := hid hr
    clear HR hr
    subst hc0
    rw [show ev eD eM eR eS 0 = .nilIface from rfl]
    go_wp2_with fail
    go_loopw [42] (fun i wr => ∃ k zk : Nat, k ≤ l.length ∧ i = .int .i64 k ∧ Fr (fun b => b = B) W3 wr ∧ wr.heap[B]? = some (.cells #[.int .i64 zk] 3) ∧ zk ≤ z ∧ vwL l (deep + 1) z = vwL (l.drop k) (deep + 1) zk) (fun i _ => l.length - (intOf i).toNat)
    case atStart => exact ⟨0, z, Nat.zero_le _, rfl, Fr.refl _ _, HB3.out, Nat.le_refl _, rfl⟩
    case round =>
      obtain ⟨k, zk, hk, rfl, hf, hzk, hle, heq⟩ := hrel
      by_cases hlt : k < l.length
      · obtain ⟨b, o, y, a', c', rfl, hbB, hy, hv, e0, e1, e2, e3⟩ := VL.elem HB.out HI.out k hlt
        have hf0 := HF3.out.trans' hf
        replace e0 := hf0.cell e0 hbB
        replace e1 := hf0.cell e1 hbB
        replace e2 := hf0.cell e2 hbB
        replace e3 := hf0.cell e3 hbB
        have hA : ∀ o : Obj, Fr (fun _ => False) wr (wr.alloc o) := fun o => (Fr.refl _ _).alloc _
        have hv2 := fun o => (hv.frame hf0 (fun _ h => h)).frame (hA o) (fun _ _ => id)
        have hE2 := fun o => (HE.out.frame hf0 (fun k hk e => by omega)).frame (hA o) (fun _ _ => id)
        have hzk2 := fun o => (hA o).heap hzk not_false
        have t2 := sizeL_mem hy
        have hy1 : y.size ≤ N := by have := HS.out; have := HN.out; omega
        have hod := vwL_drop l k (deep + 1) zk y hy
        have hole := y.vw_le (deep + 1) zk
        have hc := fun o => HIH.out y hy1 B (wr.alloc o) _ (deep + 1) zk (hv2 o) (by have := H1.out; omega) (by have := HM.out; have := HS.out; omega) (by have := HZL.out; omega) (hzk2 o) (hE2 o) hB4
        rw [hod] at heq
        have HE9 := hid heq; have HFr := hid hf; have HC := hid hc; have HO9 := hid hole
        clear hv t2 hf hf0 hv2 hE2 hzk2 hc hy1 hod heq hole hy hzk
        generalize y.vw (deep + 1) zk = ry at *
        go_wp2_with fail
        refine (HC.out _).mono ?_
        rintro e w2 ⟨rfl, hf2, hb2⟩
        have HF2 := hid (HFr.out.trans' (((Fr.refl _ wr).alloc _).trans' hf2)); have HB2 := hid hb2
        clear hf2 hb2
        by_cases hry : ry.1 = 0
        · have hev : ev eD eM eR eS ry.1 = .nilIface := by rw [hry]; rfl
          rw [hev]
          go_wp2
          go_roundw
          case rel => exact ⟨k + 1, ry.2, by omega, by go_num, HF2.out, HB2.out, by have := HO9.out; omega, by rw [HE9.out, if_pos hry]⟩
          case measure => simp [intOf]; omega
        · obtain ⟨t, v, he⟩ := HI4.out ry.1 hry
          rw [he]
          go_wp2
          go_ret
          have hrr := HR'.out
          rw [HE9.out, if_neg hry] at hrr
          rw [hrr]
          exact ⟨congrArg Ending.returned he.symm, HF3.out.trans' HF2.out, HB2.out⟩
      · go_wp2
        go_ret
        have hrr := HR'.out
        rw [heq, List.drop_of_length_le (by omega), vwL] at hrr
        rw [hrr]
        exact ⟨rfl, HF3.out.trans' hf, hzk⟩
end
section
open Go.RowKit

def V.valid (x : V) : Int := (x.odd 1 0).1
def V.right (x : V) : Bool := x.valid == 0

set_option maxHeartbeats 800000 in
theorem rvalid_any (x : V) (hM : x.size ≤ 1099511627776) (D : Nat → Prop) (w : World) (u : Array Value) (h : VIn D w x u) :
    Calls Tryd.prog 78 #[.agg u] w fun e w' => e = .returned (.int .i64 x.valid) ∧ Fr (fun _ => False) w w' := by
  obtain ⟨v, rfl, hl⟩ := h.open
  obtain ⟨a, cap, us, rfl, -⟩ := hl
  have hF : ∀ o1 o2, Fr (fun _ => False) w ((w.alloc o1).alloc o2) := fun o1 o2 => ((Fr.refl _ _).alloc _).alloc _
  have hv : ∀ o1 o2, VIn (fun b => b ≠ w.heap.size + 1) ((w.alloc o1).alloc o2) x #[.int .i64 x.k, .int .i64 x.n, .string x.s, .slice a x.l.length cap] := fun o1 o2 => (h.mono fun k hk _ => by omega).frame (hF o1 o2) (fun _ _ => not_false)
  have hb : ∀ o1 : Obj, ((w.alloc o1).alloc (.cells #[.int .i64 0] 148)).heap[w.heap.size + 1]? = some (.cells #[.int .i64 0] 148) := fun o1 => by
    have := heap_alloc_new (w.alloc o1) (.cells #[.int .i64 0] 148)
    simpa using this
  have hodd := fun o1 => odd_any x.size x (Nat.le_refl _) (w.heap.size + 1) ((w.alloc o1).alloc (.cells #[.int .i64 0] 148)) _ 1 0 (hv o1 _) (by omega) (by omega) (hb o1)
  have HC := hid hodd; have HF := hid hF; have HX := hid (show x.valid = (x.odd 1 0).1 from rfl)
  clear hodd hF hv hb h hM
  generalize x.valid = rv at *
  generalize x.odd 1 0 = r at *
  generalize x.k = kk at *
  generalize x.n = nn at *
  generalize x.s = ss at *
  generalize x.l.length = ll at *
  have HD : ∀ o2 : Obj, ((w.alloc (.cells #[.int .i64 kk, .int .i64 nn, .string ss, .slice a ll cap] 34)).alloc o2).heap[w.heap.size]? = some (.cells #[.int .i64 kk, .int .i64 nn, .string ss, .slice a ll cap] 34) := fun o2 => ((Fr.refl (fun _ => False) _).alloc _).heap (heap_alloc_new w _) not_false
  go_enter Tryd.func78, Tryd.ntmps78
  go_wp2_with fail
  refine (HC.out _).mono ?_
  rintro e w2 ⟨rfl, hf2, -⟩
  have HF2 := hid ((HF.out _ _).trans hf2 (fun _ _ => id) (fun k hk e => by omega))
  clear hf2
  go_wp2
  go_ret
  exact ⟨by rw [HX.out]; rfl, HF2.out⟩

set_option maxHeartbeats 800000 in
theorem rright_any (x : V) (hM : x.size ≤ 1099511627776) (D : Nat → Prop) (w : World) (u : Array Value) (h : VIn D w x u) :
    Calls Tryd.prog 58 #[.agg u] w fun e w' => e = .returned (.bool x.right) ∧ Fr (fun _ => False) w w' := by
  obtain ⟨v, rfl, hl⟩ := h.open
  obtain ⟨a, cap, us, rfl, -⟩ := hl
  have hF : ∀ o1, Fr (fun _ => False) w (w.alloc o1) := fun o1 => (Fr.refl _ _).alloc _
  have hodd := fun o1 => rvalid_any x hM D (w.alloc o1) _ (h.frame (hF o1) fun _ _ => id)
  have HC := hid hodd; have HF := hid hF; have HX := hid (show x.right = (x.valid == 0) from rfl)
  clear hodd hF h hM
  generalize x.right = rr at *
  generalize x.valid = rv at *
  generalize x.k = kk at *
  generalize x.n = nn at *
  generalize x.s = ss at *
  generalize x.l.length = ll at *
  go_enter Tryd.func58, Tryd.ntmps58
  go_wp2_with fail
  refine (HC.out _).mono ?_
  rintro e w2 ⟨rfl, hf2⟩
  have HF2 := hid ((HF.out _).trans' hf2)
  clear hf2
  go_wp2
  go_ret
  exact ⟨by rw [HX.out]; rfl, HF2.out⟩

theorem all_take {p : V → Bool} (l : List V) (k : Nat) (x : V) (h : l[k]? = some x) : (l.take (k + 1)).all p = ((l.take k).all p && p x) := by
  rw [List.take_add_one, h]
  simp

end
section
open Go.RowKit

theorem own_shape {k n : Int} (s : ByteArray) (e : Bool) (h : oddRange k n = false) : oddShape k n s e = (ownShape k n s e || !printed s) := by
  have hk : k = 0 ∨ k = 1 ∨ k = 2 ∨ k = 3 ∨ k = 4 := by
    simp [oddRange] at h
    omega
  unfold oddShape ownShape
  rcases hk with rfl | rfl | rfl | rfl | rfl <;> cases hn : (n != 0) <;> cases hs : (s.size != 0) <;> cases e <;> cases printed s <;> rfl
mutual
theorem V.vw_odd : ∀ (x : V) (deep sz left : Nat), sz + left = 4096 → (x.odd deep sz).1 = (x.vw deep left).1 ∧ ((x.vw deep left).1 = 0 → (x.odd deep sz).2 + (x.vw deep left).2 = 4096)
  | .mk k n s l, deep, sz, left, h => by
    have h2 := vwL_odd l (deep + 1) (oddSize k s sz) (left - (1 + strOf k s))
    have hsz : oddSize k s sz = sz + 1 + strOf k s := rfl
    simp only [V.odd, V.vw]
    by_cases h1 : 40 < deep
    · simp [h1]
    simp only [if_neg h1]
    by_cases h3 : left ≤ strOf k s
    · simp [h3, show 4096 < oddSize k s sz by omega]
    simp only [if_neg h3, if_neg (show ¬ 4096 < oddSize k s sz by omega)]
    cases er : oddRange k n
    · have eo := own_shape s l.isEmpty er
      rw [eo]
      simp only [ownCode, er, Bool.false_eq_true, if_false]
      cases ownShape k n s l.isEmpty <;> cases printed s <;> simp
      exact h2 (by omega)
    · simp [ownCode, er]
theorem vwL_odd : ∀ (l : List V) (deep sz left : Nat), sz + left = 4096 → (oddL l deep sz).1 = (vwL l deep left).1 ∧ ((vwL l deep left).1 = 0 → (oddL l deep sz).2 + (vwL l deep left).2 = 4096)
  | [], deep, sz, left, h => by simp [oddL, vwL, h]
  | x :: r, deep, sz, left, h => by
    obtain ⟨h1, h2⟩ := V.vw_odd x deep sz left h
    simp only [oddL, vwL]
    by_cases h0 : (x.vw deep left).1 = 0
    · rw [if_pos (h1.trans h0), if_pos h0]
      exact vwL_odd r deep _ _ (h2 h0)
    · rw [if_neg (fun e => h0 (h1.symm.trans e)), if_neg h0]
      exact ⟨h1, fun e => absurd e h0⟩
end
theorem V.vcode (x : V) : (x.vw 1 4096).1 = x.valid := (V.vw_odd x 1 0 4096 rfl).1.symm

set_option maxHeartbeats 800000 in
theorem vvalid_any (eD eM eR eS : Value) (i1 : IsErr eD) (i2 : IsErr eM) (i3 : IsErr eR) (i4 : IsErr eS) (x : V) (hM : x.size ≤ 1099511627776) (D : Nat → Prop) (w : World) (u : Array Value) (h : VIn D w x u) (hE : Errs w eD eM eR eS) (h4 : 7 ≤ w.heap.size) :
    Calls Tryd.prog 100 #[.agg u] w fun e w' => e = .returned (ev eD eM eR eS x.valid) ∧ Fr (fun _ => False) w w' := by
  obtain ⟨v, rfl, hl⟩ := h.open
  obtain ⟨a, cap, us, rfl, -⟩ := hl
  have hF : ∀ o1 o2, Fr (fun _ => False) w ((w.alloc o1).alloc o2) := fun o1 o2 => ((Fr.refl _ _).alloc _).alloc _
  have hv : ∀ o1 o2, VIn (fun b => b ≠ w.heap.size + 1) ((w.alloc o1).alloc o2) x #[.int .i64 x.k, .int .i64 x.n, .string x.s, .slice a x.l.length cap] := fun o1 o2 => (h.mono fun k hk _ => by omega).frame (hF o1 o2) (fun _ _ => not_false)
  have hb : ∀ o1 : Obj, ((w.alloc o1).alloc (.cells #[.int .i64 4096] 3)).heap[w.heap.size + 1]? = some (.cells #[.int .i64 (4096 : Nat)] 3) := fun o1 => by
    have := heap_alloc_new (w.alloc o1) (.cells #[.int .i64 4096] 3)
    simpa using this
  have hodd := fun o1 => vw_any eD eM eR eS i1 i2 i3 i4 x.size x (Nat.le_refl _) (w.heap.size + 1) ((w.alloc o1).alloc (.cells #[.int .i64 4096] 3)) _ 1 4096 (hv o1 _) (by omega) hM (by omega) (hb o1) (hE.frame (hF _ _) (fun _ _ => id)) (by omega)
  have HC := hid hodd; have HF := hid hF; have HX := hid x.vcode
  clear hodd hF hv hb h hM hE i1 i2 i3 i4
  generalize x.valid = rv at *
  generalize x.vw 1 4096 = r at *
  generalize x.k = kk at *
  generalize x.n = nn at *
  generalize x.s = ss at *
  generalize x.l.length = ll at *
  have hd : ∀ o2 : Obj, ((w.alloc (.cells #[.int .i64 kk, .int .i64 nn, .string ss, .slice a ll cap] 34)).alloc o2).heap[w.heap.size]? = some (.cells #[.int .i64 kk, .int .i64 nn, .string ss, .slice a ll cap] 34) := fun o2 => ((Fr.refl (fun _ => False) _).alloc _).heap (heap_alloc_new w _) not_false
  have HD := hid hd
  clear hd
  go_enter Tryd.func100, Tryd.ntmps100
  go_wp2_with fail
  refine (HC.out _).mono ?_
  rintro e w2 ⟨rfl, hf2, -⟩
  have HF2 := hid ((HF.out _ _).trans hf2 (fun _ _ => id) (fun k hk e => by omega))
  clear hf2
  go_wp2
  go_ret
  exact ⟨by rw [← HX.out]; rfl, HF2.out⟩
end
section
open Go.RowKit

/-- A fault with nothing around it. -/
def bareV (n : Int) : Value := .agg #[.int .i64 n, .bool false, .int .i64 0, .int .i64 0, .int .i64 0, .string ⟨#[]⟩, .slice none 0 0]
set_option maxHeartbeats 800000 in
theorem bare_any (n : Int) (w : World) : Calls Tryd.prog 26 #[.int .i64 n] w fun e w' => e = .returned (bareV n) ∧ Fr (fun _ => False) w w' := by
  go_enter Tryd.func26, Tryd.ntmps26
  go_wp2
  have hR : (w.alloc (.cells #[.int .i64 n, .bool false, .int .i64 0, .int .i64 0, .int .i64 0, .string ⟨#[]⟩, .slice none 0 0] 49)).heap[w.heap.size]? = some (.cells #[.int .i64 n, .bool false, .int .i64 0, .int .i64 0, .int .i64 0, .string ⟨#[]⟩, .slice none 0 0] 49) := heap_alloc_new w _
  refine bodyPost_ret (results_cell_row rfl _ _ w.heap.size _ _ _ _ rfl hR Tryd.underlying49 rfl (by kernel_rfl)) rfl ?_
  exact ⟨rfl, (Fr.refl _ _).alloc _⟩
set_option maxHeartbeats 800000 in
theorem none_any (w : World) : Calls Tryd.prog 34 #[] w fun e w' => e = .returned (bareV 0) ∧ Fr (fun _ => False) w w' := by
  go_enter Tryd.func34, Tryd.ntmps34
  go_wp2
  have hR : (w.alloc (.cells #[.int .i64 0, .bool false, .int .i64 0, .int .i64 0, .int .i64 0, .string ⟨#[]⟩, .slice none 0 0] 49)).heap[w.heap.size]? = some (.cells #[.int .i64 0, .bool false, .int .i64 0, .int .i64 0, .int .i64 0, .string ⟨#[]⟩, .slice none 0 0] 49) := heap_alloc_new w _
  refine bodyPost_ret (results_cell_row rfl _ _ w.heap.size _ _ _ _ rfl hR Tryd.underlying49 rfl (by kernel_rfl)) rfl ?_
  exact ⟨rfl, (Fr.refl _ _).alloc _⟩


theorem svs_nil (w : World) : Calls Tryd.prog 77 #[.slice none 0 0, .slice none 0 0] w fun e w' => e = .returned (.bool true) ∧ w = w' := by
  go_enter Tryd.func77, Tryd.ntmps77
  go_wp2
  go_loop [5] (fun i => i = .int .i64 0) (fun _ => 0)
  case atStart => rfl
  case round =>
    subst hrel
    go_wp2
    go_ret
    exact ⟨rfl, rfl⟩
def zeroV : Array Value := #[.int .i64 0, .int .i64 0, .string ⟨#[]⟩, .slice none 0 0]
theorem sv_zero (w : World) : Calls Tryd.prog 57 #[.agg #[.int .i64 0, .int .i64 0, .string ⟨#[]⟩, .slice none 0 0], .agg #[.int .i64 0, .int .i64 0, .string ⟨#[]⟩, .slice none 0 0]] w fun e w' => e = .returned (.bool true) ∧ Fr (fun _ => False) w w' := by
  go_enter Tryd.func57, Tryd.ntmps57
  go_wp2_with fail
  refine (svs_nil _).mono ?_
  rintro e w2 ⟨rfl, rfl⟩
  go_wp2
  go_ret
  exact ⟨rfl, ((Fr.refl _ _).alloc _).alloc _⟩

set_option maxHeartbeats 1600000 in
theorem samefault_num (m n : Int) (w : World) : Calls Tryd.prog 44 #[bareV m, bareV n] w fun e w' => e = .returned (.bool (decide (m = n))) ∧ Fr (fun _ => False) w w' := by
  have hd : decide (m = n) = (m == n) := by
    rw [Bool.eq_iff_iff]
    simp
  have HD := hid hd
  clear hd
  unfold bareV
  go_enter Tryd.func44, Tryd.ntmps44
  go_wp2_with fail
  refine (sv_zero _).mono ?_
  rintro e w2 ⟨rfl, hf2⟩
  have hF : ∀ o1 o2 : Obj, Fr (fun _ => False) w ((w.alloc o1).alloc o2) := fun o1 o2 => ((Fr.refl _ _).alloc _).alloc _
  have h1 := hf2.heap (k := w.heap.size) (((Fr.refl (fun _ => False) _).alloc _).heap (heap_alloc_new w (.cells #[.int .i64 m, .bool false, .int .i64 0, .int .i64 0, .int .i64 0, .string ⟨#[]⟩, .slice none 0 0] 49)) not_false) not_false
  have h2 := hf2.heap (k := w.heap.size + 1) (o := .cells #[.int .i64 n, .bool false, .int .i64 0, .int .i64 0, .int .i64 0, .string ⟨#[]⟩, .slice none 0 0] 49) (by
    have := heap_alloc_new (w.alloc (.cells #[.int .i64 m, .bool false, .int .i64 0, .int .i64 0, .int .i64 0, .string ⟨#[]⟩, .slice none 0 0] 49)) (.cells #[.int .i64 n, .bool false, .int .i64 0, .int .i64 0, .int .i64 0, .string ⟨#[]⟩, .slice none 0 0] 49)
    simpa using this) not_false
  have x0 : w2.cell? ⟨w.heap.size, 0, none⟩ = some (.int .i64 m) := by rw [cell_of_row _ _ 0 _ _ _ h1]; rfl
  have x1 : w2.cell? ⟨w.heap.size, 1, none⟩ = some (.bool false) := by rw [cell_of_row _ _ 1 _ _ _ h1]; rfl
  have x2 : w2.cell? ⟨w.heap.size, 2, none⟩ = some (.int .i64 0) := by rw [cell_of_row _ _ 2 _ _ _ h1]; rfl
  have y0 : w2.cell? ⟨w.heap.size + 1, 0, none⟩ = some (.int .i64 n) := by rw [cell_of_row _ _ 0 _ _ _ h2]; rfl
  have y1 : w2.cell? ⟨w.heap.size + 1, 1, none⟩ = some (.bool false) := by rw [cell_of_row _ _ 1 _ _ _ h2]; rfl
  have y2 : w2.cell? ⟨w.heap.size + 1, 2, none⟩ = some (.int .i64 0) := by rw [cell_of_row _ _ 2 _ _ _ h2]; rfl
  have HF := hid ((hF _ _).trans' hf2)
  clear h1 h2 hf2 hF
  cases hmn : (m == n) with
  | false =>
    rw [hmn] at HD
    go_wp2
    go_ret
    exact ⟨ret_bool HD.out.symm, HF.out⟩
  | true =>
    rw [hmn] at HD
    go_wp2
    go_ret
    exact ⟨ret_bool HD.out.symm, HF.out⟩
end
section
open Go.RowKit

/-- The variables of api's errors, in the order in which they are asked. -/
def sentG : List Nat := [4, 1, 0, 2, 6, 5, 7, 8, 9, 10, 11, 3, 12, 13, 14, 15, 16]
/-- The errors lie in their variables. -/
def Sents (w : World) (pa : Nat → Addr) : Prop := ∀ i, i < 17 → w.cell? ⟨sentG.getD i 0, 0, none⟩ = some (.iface 175 (.pointer (some (pa i))))
theorem Sents.frame {w w' : World} {pa : Nat → Addr} (h : Sents w pa) (hf : Fr (fun _ => False) w w') : Sents w' pa := fun i hi => hf.cell (h i hi) not_false

set_option maxHeartbeats 1600000 in
theorem sentinels_any (w : World) (pa : Nat → Addr) (h : Sents w pa) : Calls Tryd.prog 111 #[] w fun e w' => e = .returned (.slice (some ⟨w.heap.size, 0, none⟩) 17 17) ∧ w' = w.alloc (.cells #[.iface 175 (.pointer (some (pa 0))), .iface 175 (.pointer (some (pa 1))), .iface 175 (.pointer (some (pa 2))), .iface 175 (.pointer (some (pa 3))), .iface 175 (.pointer (some (pa 4))), .iface 175 (.pointer (some (pa 5))), .iface 175 (.pointer (some (pa 6))), .iface 175 (.pointer (some (pa 7))), .iface 175 (.pointer (some (pa 8))), .iface 175 (.pointer (some (pa 9))), .iface 175 (.pointer (some (pa 10))), .iface 175 (.pointer (some (pa 11))), .iface 175 (.pointer (some (pa 12))), .iface 175 (.pointer (some (pa 13))), .iface 175 (.pointer (some (pa 14))), .iface 175 (.pointer (some (pa 15))), .iface 175 (.pointer (some (pa 16)))] 27) := by
  have g0 : w.cell? ⟨4, 0, none⟩ = some (.iface 175 (.pointer (some (pa 0)))) := h 0 (by decide)
  have g1 : w.cell? ⟨1, 0, none⟩ = some (.iface 175 (.pointer (some (pa 1)))) := h 1 (by decide)
  have g2 : w.cell? ⟨0, 0, none⟩ = some (.iface 175 (.pointer (some (pa 2)))) := h 2 (by decide)
  have g3 : w.cell? ⟨2, 0, none⟩ = some (.iface 175 (.pointer (some (pa 3)))) := h 3 (by decide)
  have g4 : w.cell? ⟨6, 0, none⟩ = some (.iface 175 (.pointer (some (pa 4)))) := h 4 (by decide)
  have g5 : w.cell? ⟨5, 0, none⟩ = some (.iface 175 (.pointer (some (pa 5)))) := h 5 (by decide)
  have g6 : w.cell? ⟨7, 0, none⟩ = some (.iface 175 (.pointer (some (pa 6)))) := h 6 (by decide)
  have g7 : w.cell? ⟨8, 0, none⟩ = some (.iface 175 (.pointer (some (pa 7)))) := h 7 (by decide)
  have g8 : w.cell? ⟨9, 0, none⟩ = some (.iface 175 (.pointer (some (pa 8)))) := h 8 (by decide)
  have g9 : w.cell? ⟨10, 0, none⟩ = some (.iface 175 (.pointer (some (pa 9)))) := h 9 (by decide)
  have g10 : w.cell? ⟨11, 0, none⟩ = some (.iface 175 (.pointer (some (pa 10)))) := h 10 (by decide)
  have g11 : w.cell? ⟨3, 0, none⟩ = some (.iface 175 (.pointer (some (pa 11)))) := h 11 (by decide)
  have g12 : w.cell? ⟨12, 0, none⟩ = some (.iface 175 (.pointer (some (pa 12)))) := h 12 (by decide)
  have g13 : w.cell? ⟨13, 0, none⟩ = some (.iface 175 (.pointer (some (pa 13)))) := h 13 (by decide)
  have g14 : w.cell? ⟨14, 0, none⟩ = some (.iface 175 (.pointer (some (pa 14)))) := h 14 (by decide)
  have g15 : w.cell? ⟨15, 0, none⟩ = some (.iface 175 (.pointer (some (pa 15)))) := h 15 (by decide)
  have g16 : w.cell? ⟨16, 0, none⟩ = some (.iface 175 (.pointer (some (pa 16)))) := h 16 (by decide)
  clear h
  generalize pa 0 = a0 at *
  generalize pa 1 = a1 at *
  generalize pa 2 = a2 at *
  generalize pa 3 = a3 at *
  generalize pa 4 = a4 at *
  generalize pa 5 = a5 at *
  generalize pa 6 = a6 at *
  generalize pa 7 = a7 at *
  generalize pa 8 = a8 at *
  generalize pa 9 = a9 at *
  generalize pa 10 = a10 at *
  generalize pa 11 = a11 at *
  generalize pa 12 = a12 at *
  generalize pa 13 = a13 at *
  generalize pa 14 = a14 at *
  generalize pa 15 = a15 at *
  generalize pa 16 = a16 at *
  go_enter Tryd.func111, Tryd.ntmps111
  go_wp2_with fail
  go_ret
  exact ⟨rfl, rfl⟩

/-- Where an error lies. -/
def Rowed (w : World) (a : Addr) : Prop := ∃ c t, w.heap[a.block]? = some (.cells c t)
theorem Rowed.frame {w w' : World} {a : Addr} (h : Rowed w a) (hf : Fr (fun _ => False) w w') : Rowed w' a := by
  obtain ⟨c, t, h⟩ := h
  exact ⟨c, t, hf.heap h not_false⟩

theorem eql_same (a : Addr) (w : World) : (binOp .eql 27 (.iface 175 (.pointer (some a))) (.iface 175 (.pointer (some a)))).run Tryd.prog w = .ok (.bool true) w := by
  obtain ⟨i, hi, hc⟩ : ∃ i, Tryd.prog.info? 175 = some i ∧ i.comparable = true := by
    have h : (Tryd.prog.info? 175).map (·.comparable) = some true := by kernel_rfl
    cases hh : Tryd.prog.info? 175 with
    | none => rw [hh] at h; cases h
    | some i => rw [hh] at h; exact ⟨i, rfl, by simpa using h⟩
  obtain ⟨j, hj⟩ : ∃ j, Tryd.prog.info? 189 = some j := by
    have h : (Tryd.prog.info? 189).isSome = true := by kernel_rfl
    exact Option.isSome_iff_exists.1 h
  exact run_eql_iface_ptr_same w a Tryd.underlying27 Tryd.underlying175 hi hc hj
theorem eql_other {a b : Addr} {w : World} (hne : a ≠ b) (ha : Rowed w a) (hb : Rowed w b) : (binOp .eql 27 (.iface 175 (.pointer (some a))) (.iface 175 (.pointer (some b)))).run Tryd.prog w = .ok (.bool false) w := by
  obtain ⟨i, hi, hc⟩ : ∃ i, Tryd.prog.info? 175 = some i ∧ i.comparable = true := by
    have h : (Tryd.prog.info? 175).map (·.comparable) = some true := by kernel_rfl
    cases hh : Tryd.prog.info? 175 with
    | none => rw [hh] at h; cases h
    | some i => rw [hh] at h; exact ⟨i, rfl, by simpa using h⟩
  obtain ⟨j, hj, hs⟩ : ∃ j, Tryd.prog.info? 189 = some j ∧ j.size ≠ 0 := by
    have h : (Tryd.prog.info? 189).map (fun j => j.size != 0) = some true := by kernel_rfl
    cases hh : Tryd.prog.info? 189 with
    | none => rw [hh] at h; cases h
    | some i => rw [hh] at h; exact ⟨i, rfl, by simpa using h⟩
  obtain ⟨ca, ta, ha⟩ := ha
  obtain ⟨cb, tb, hb⟩ := hb
  exact run_eql_iface_ptr_other w Tryd.underlying27 Tryd.underlying175 hi hc hj hs hne ha hb

theorem alike_same (a : Addr) (w : World) : Calls Tryd.prog 112 #[.iface 175 (.pointer (some a)), .iface 175 (.pointer (some a))] w fun e w' => e = .returned (.bool true) ∧ w = w' := by
  have h := eql_same a
  go_enter Tryd.func112, Tryd.ntmps112
  go_wp2
  go_ret
  exact ⟨rfl, rfl⟩
theorem alike_other {a b : Addr} {w : World} (hne : a ≠ b) (ha : Rowed w a) (hb : Rowed w b) : Calls Tryd.prog 112 #[.iface 175 (.pointer (some a)), .iface 175 (.pointer (some b))] w fun e w' => e = .returned (.bool false) ∧ w = w' := by
  have h := eql_other hne ha hb
  clear hne ha hb
  go_enter Tryd.func112, Tryd.ntmps112
  go_wp2
  go_ret
  exact ⟨rfl, rfl⟩
/-- Api's errors: they lie in their variables, each in a block of its own, no two the same. -/
structure Sent17 (w : World) (pa : Nat → Addr) : Prop where
  s : Sents w pa
  r : ∀ i, i < 17 → Rowed w (pa i)
  n : ∀ i j, i < 17 → j < 17 → i ≠ j → pa i ≠ pa j
theorem Sent17.frame {w w' : World} {pa : Nat → Addr} (h : Sent17 w pa) (hf : Fr (fun _ => False) w w') : Sent17 w' pa := ⟨h.s.frame hf, fun i hi => (h.r i hi).frame hf, h.n⟩

theorem sent_get (pa : Nat → Addr) (k : Nat) (hk : k < 17) : (#[.iface 175 (.pointer (some (pa 0))), .iface 175 (.pointer (some (pa 1))), .iface 175 (.pointer (some (pa 2))), .iface 175 (.pointer (some (pa 3))), .iface 175 (.pointer (some (pa 4))), .iface 175 (.pointer (some (pa 5))), .iface 175 (.pointer (some (pa 6))), .iface 175 (.pointer (some (pa 7))), .iface 175 (.pointer (some (pa 8))), .iface 175 (.pointer (some (pa 9))), .iface 175 (.pointer (some (pa 10))), .iface 175 (.pointer (some (pa 11))), .iface 175 (.pointer (some (pa 12))), .iface 175 (.pointer (some (pa 13))), .iface 175 (.pointer (some (pa 14))), .iface 175 (.pointer (some (pa 15))), .iface 175 (.pointer (some (pa 16)))] : Array Value)[k]? = some (.iface 175 (.pointer (some (pa k)))) := by
  obtain rfl | rfl | rfl | rfl | rfl | rfl | rfl | rfl | rfl | rfl | rfl | rfl | rfl | rfl | rfl | rfl | rfl : k = 0 ∨ k = 1 ∨ k = 2 ∨ k = 3 ∨ k = 4 ∨ k = 5 ∨ k = 6 ∨ k = 7 ∨ k = 8 ∨ k = 9 ∨ k = 10 ∨ k = 11 ∨ k = 12 ∨ k = 13 ∨ k = 14 ∨ k = 15 ∨ k = 16 := by omega
  all_goals rfl

set_option maxHeartbeats 1600000 in
theorem sentinel_any (w : World) (pa : Nat → Addr) (h : Sent17 w pa) (j : Nat) (hj : j < 17) : Calls Tryd.prog 94 #[.iface 175 (.pointer (some (pa j)))] w fun e w' => e = .returned (.int .i64 (101 + j)) ∧ Fr (fun _ => False) w w' := by
  have hs := sentinels_any w pa h.s
  have HS := hid hs; have HH := hid h
  clear hs h
  go_enter Tryd.func94, Tryd.ntmps94
  go_wp2_with fail
  refine HS.out.mono ?_
  rintro e w' ⟨rfl, rfl⟩
  have hb := heap_alloc_new w (.cells #[.iface 175 (.pointer (some (pa 0))), .iface 175 (.pointer (some (pa 1))), .iface 175 (.pointer (some (pa 2))), .iface 175 (.pointer (some (pa 3))), .iface 175 (.pointer (some (pa 4))), .iface 175 (.pointer (some (pa 5))), .iface 175 (.pointer (some (pa 6))), .iface 175 (.pointer (some (pa 7))), .iface 175 (.pointer (some (pa 8))), .iface 175 (.pointer (some (pa 9))), .iface 175 (.pointer (some (pa 10))), .iface 175 (.pointer (some (pa 11))), .iface 175 (.pointer (some (pa 12))), .iface 175 (.pointer (some (pa 13))), .iface 175 (.pointer (some (pa 14))), .iface 175 (.pointer (some (pa 15))), .iface 175 (.pointer (some (pa 16)))] 27)
  have hF := (Fr.refl (fun _ => False) w).alloc (.cells #[.iface 175 (.pointer (some (pa 0))), .iface 175 (.pointer (some (pa 1))), .iface 175 (.pointer (some (pa 2))), .iface 175 (.pointer (some (pa 3))), .iface 175 (.pointer (some (pa 4))), .iface 175 (.pointer (some (pa 5))), .iface 175 (.pointer (some (pa 6))), .iface 175 (.pointer (some (pa 7))), .iface 175 (.pointer (some (pa 8))), .iface 175 (.pointer (some (pa 9))), .iface 175 (.pointer (some (pa 10))), .iface 175 (.pointer (some (pa 11))), .iface 175 (.pointer (some (pa 12))), .iface 175 (.pointer (some (pa 13))), .iface 175 (.pointer (some (pa 14))), .iface 175 (.pointer (some (pa 15))), .iface 175 (.pointer (some (pa 16)))] 27)
  generalize w.alloc (.cells #[.iface 175 (.pointer (some (pa 0))), .iface 175 (.pointer (some (pa 1))), .iface 175 (.pointer (some (pa 2))), .iface 175 (.pointer (some (pa 3))), .iface 175 (.pointer (some (pa 4))), .iface 175 (.pointer (some (pa 5))), .iface 175 (.pointer (some (pa 6))), .iface 175 (.pointer (some (pa 7))), .iface 175 (.pointer (some (pa 8))), .iface 175 (.pointer (some (pa 9))), .iface 175 (.pointer (some (pa 10))), .iface 175 (.pointer (some (pa 11))), .iface 175 (.pointer (some (pa 12))), .iface 175 (.pointer (some (pa 13))), .iface 175 (.pointer (some (pa 14))), .iface 175 (.pointer (some (pa 15))), .iface 175 (.pointer (some (pa 16)))] 27) = W at *
  have H2 := HH.out.frame hF
  have hg := sent_get pa
  have hce := fun k (hk : k < 17) => (cell_of_row W w.heap.size k _ _ _ hb).trans (hg k hk)
  have HC := hid hce; have HF := hid hF; have H2 := hid H2
  clear hb hF hg hce HS HH
  go_wp2_with fail
  go_loopw [4] (fun i wr => ∃ k : Nat, k ≤ j ∧ i = .int .i64 k ∧ W = wr) (fun i _ => 17 - (intOf i).toNat)
  case atStart => exact ⟨0, Nat.zero_le _, rfl, rfl⟩
  case round =>
    obtain ⟨k, hk, rfl, rfl⟩ := hrel
    have hk17 : k < 17 := by omega
    have hc := HC.out k hk17
    by_cases hkj : k = j
    · subst hkj
      have ha := alike_same (pa k) W
      have HA := hid ha
      clear ha
      go_wp2_with fail
      refine HA.out.mono ?_
      rintro e w' ⟨rfl, rfl⟩
      go_wp2
      go_ret
      exact ⟨rfl, HF.out⟩
    · have ha := alike_other (w := W) (H2.out.n j k hj hk17 (Ne.symm hkj)) (H2.out.r j hj) (H2.out.r k hk17)
      have HA := hid ha
      clear ha
      go_wp2_with fail
      refine HA.out.mono ?_
      rintro e w' ⟨rfl, rfl⟩
      go_wp2
      go_roundw
      case rel => exact ⟨k + 1, by omega, by go_num, trivial⟩
      case measure => simp [intOf]; omega

theorem assert_raise (a : Addr) (w : World) : (Instr.typeAssert (.iface 175 (.pointer (some a))) 27 141 true).run Tryd.prog w = .ok (.tuple #[.pointer none, .bool false]) w := by kernel_rfl
theorem assert_at (a : Addr) (w : World) : (Instr.typeAssert (.iface 175 (.pointer (some a))) 27 121 true).run Tryd.prog w = .ok (.tuple #[.pointer none, .bool false]) w := by kernel_rfl

set_option maxHeartbeats 1600000 in
theorem inner_any (w : World) (pa : Nat → Addr) (h : Sent17 w pa) (j : Nat) (hj : j < 17) : Calls Tryd.prog 75 #[.iface 175 (.pointer (some (pa j)))] w fun e w' => e = .returned (bareV (101 + j)) ∧ Fr (fun _ => False) w w' := by
  have HH := hid h
  clear h
  have ht := assert_raise (pa j)
  go_enter Tryd.func75, Tryd.ntmps75
  go_wp2_with fail
  have hF := (Fr.refl (fun _ => False) w).alloc (.cells #[.int .i64 0, .bool false, .int .i64 0, .int .i64 0, .int .i64 0, .string ⟨#[]⟩, .slice none 0 0] 49)
  have hrow := heap_alloc_new w (.cells #[.int .i64 0, .bool false, .int .i64 0, .int .i64 0, .int .i64 0, .string ⟨#[]⟩, .slice none 0 0] 49)
  refine (sentinel_any _ pa (HH.out.frame hF) j hj).mono ?_
  rintro e w2 ⟨rfl, hf2⟩
  have HF := hid (hF.trans' hf2); have HR2 := hid (hf2.heap hrow not_false)
  clear hF hf2 hrow ht
  go_wp2_with fail
  refine (bare_any (101 + j) w2).mono ?_
  rintro e w3 ⟨rfl, hf3⟩
  have HF3 := hid (HF.out.trans' hf3); have HRR := hid (hf3.heap HR2.out not_false)
  clear hf3
  unfold bareV
  have hR := HRR.out
  have x0 : w3.cell? ⟨w.heap.size, 0, none⟩ = some (.int .i64 0) := by rw [cell_of_row _ _ 0 _ _ _ hR]; rfl
  have x1 : w3.cell? ⟨w.heap.size, 1, none⟩ = some (.bool false) := by rw [cell_of_row _ _ 1 _ _ _ hR]; rfl
  have x2 : w3.cell? ⟨w.heap.size, 2, none⟩ = some (.int .i64 0) := by rw [cell_of_row _ _ 2 _ _ _ hR]; rfl
  have x3 : w3.cell? ⟨w.heap.size, 3, none⟩ = some (.int .i64 0) := by rw [cell_of_row _ _ 3 _ _ _ hR]; rfl
  have x4 : w3.cell? ⟨w.heap.size, 4, none⟩ = some (.int .i64 0) := by rw [cell_of_row _ _ 4 _ _ _ hR]; rfl
  have x5 : w3.cell? ⟨w.heap.size, 5, none⟩ = some (.string ⟨#[]⟩) := by rw [cell_of_row _ _ 5 _ _ _ hR]; rfl
  have x6 : w3.cell? ⟨w.heap.size, 6, none⟩ = some (.slice none 0 0) := by rw [cell_of_row _ _ 6 _ _ _ hR]; rfl
  have fz : ∀ i, w3.frozen? ⟨w.heap.size, i, none⟩ = false := fun i => frozen_of_row _ _ i _ _ hR
  clear hR
  go_wp2_with fail
  have hR2 := (setCell_row 6 (.slice none 0 0) (setCell_row 5 (.string ⟨#[]⟩) (setCell_row 4 (.int .i64 0) (setCell_row 3 (.int .i64 0) (setCell_row 2 (.int .i64 0) (setCell_row 1 (.bool false) (setCell_row 0 (.int .i64 (101 + j)) HRR.out)))))))
  simp only [List.setIfInBounds_toArray, List.set_cons_zero, List.set_cons_succ] at hR2
  have hf8 : Fr (fun q => q = w.heap.size) w3 (((((((w3.setCell ⟨w.heap.size, 0, none⟩ (.int .i64 (101 + j))).setCell ⟨w.heap.size, 1, none⟩ (.bool false)).setCell ⟨w.heap.size, 2, none⟩ (.int .i64 0)).setCell ⟨w.heap.size, 3, none⟩ (.int .i64 0)).setCell ⟨w.heap.size, 4, none⟩ (.int .i64 0)).setCell ⟨w.heap.size, 5, none⟩ (.string ⟨#[]⟩)).setCell ⟨w.heap.size, 6, none⟩ (.slice none 0 0)) := ((((((((Fr.refl (fun q => q = w.heap.size) w3).setCell (p := ⟨w.heap.size, 0, none⟩) (.inl rfl) (.int .i64 (101 + j))).setCell (p := ⟨w.heap.size, 1, none⟩) (.inl rfl) (.bool false)).setCell (p := ⟨w.heap.size, 2, none⟩) (.inl rfl) (.int .i64 0)).setCell (p := ⟨w.heap.size, 3, none⟩) (.inl rfl) (.int .i64 0)).setCell (p := ⟨w.heap.size, 4, none⟩) (.inl rfl) (.int .i64 0)).setCell (p := ⟨w.heap.size, 5, none⟩) (.inl rfl) (.string ⟨#[]⟩)).setCell (p := ⟨w.heap.size, 6, none⟩) (.inl rfl) (.slice none 0 0))
  refine bodyPost_ret (results_cell_row rfl _ _ w.heap.size _ _ _ _ rfl hR2 Tryd.underlying49 rfl (by kernel_rfl)) rfl ?_
  exact ⟨rfl, HF3.out.trans hf8 (fun _ _ => id) (fun q hq e => by omega)⟩

set_option maxHeartbeats 1600000 in
theorem fault_any (w : World) (pa : Nat → Addr) (h : Sent17 w pa) (j : Nat) (hj : j < 17) : Calls Tryd.prog 45 #[.iface 175 (.pointer (some (pa j)))] w fun e w' => e = .returned (bareV (101 + j)) ∧ Fr (fun _ => False) w w' := by
  have HH := hid h
  clear h
  have ht := assert_at (pa j)
  go_enter Tryd.func45, Tryd.ntmps45
  go_wp2_with fail
  have hF := (Fr.refl (fun _ => False) w).alloc (.cells #[.int .i64 0, .bool false, .int .i64 0, .int .i64 0, .int .i64 0, .string ⟨#[]⟩, .slice none 0 0] 49)
  have hrow := heap_alloc_new w (.cells #[.int .i64 0, .bool false, .int .i64 0, .int .i64 0, .int .i64 0, .string ⟨#[]⟩, .slice none 0 0] 49)
  refine (inner_any _ pa (HH.out.frame hF) j hj).mono ?_
  rintro e w3 ⟨rfl, hf3⟩
  have HF3 := hid (hF.trans' hf3); have HRR := hid (hf3.heap hrow not_false)
  clear hF hf3 hrow ht
  unfold bareV
  have hR := HRR.out
  have x0 : w3.cell? ⟨w.heap.size, 0, none⟩ = some (.int .i64 0) := by rw [cell_of_row _ _ 0 _ _ _ hR]; rfl
  have x1 : w3.cell? ⟨w.heap.size, 1, none⟩ = some (.bool false) := by rw [cell_of_row _ _ 1 _ _ _ hR]; rfl
  have x2 : w3.cell? ⟨w.heap.size, 2, none⟩ = some (.int .i64 0) := by rw [cell_of_row _ _ 2 _ _ _ hR]; rfl
  have x3 : w3.cell? ⟨w.heap.size, 3, none⟩ = some (.int .i64 0) := by rw [cell_of_row _ _ 3 _ _ _ hR]; rfl
  have x4 : w3.cell? ⟨w.heap.size, 4, none⟩ = some (.int .i64 0) := by rw [cell_of_row _ _ 4 _ _ _ hR]; rfl
  have x5 : w3.cell? ⟨w.heap.size, 5, none⟩ = some (.string ⟨#[]⟩) := by rw [cell_of_row _ _ 5 _ _ _ hR]; rfl
  have x6 : w3.cell? ⟨w.heap.size, 6, none⟩ = some (.slice none 0 0) := by rw [cell_of_row _ _ 6 _ _ _ hR]; rfl
  have fz : ∀ i, w3.frozen? ⟨w.heap.size, i, none⟩ = false := fun i => frozen_of_row _ _ i _ _ hR
  clear hR
  go_wp2_with fail
  have hR2 := (setCell_row 6 (.slice none 0 0) (setCell_row 5 (.string ⟨#[]⟩) (setCell_row 4 (.int .i64 0) (setCell_row 3 (.int .i64 0) (setCell_row 2 (.int .i64 0) (setCell_row 1 (.bool false) (setCell_row 0 (.int .i64 (101 + j)) HRR.out)))))))
  simp only [List.setIfInBounds_toArray, List.set_cons_zero, List.set_cons_succ] at hR2
  have hf8 : Fr (fun q => q = w.heap.size) w3 (((((((w3.setCell ⟨w.heap.size, 0, none⟩ (.int .i64 (101 + j))).setCell ⟨w.heap.size, 1, none⟩ (.bool false)).setCell ⟨w.heap.size, 2, none⟩ (.int .i64 0)).setCell ⟨w.heap.size, 3, none⟩ (.int .i64 0)).setCell ⟨w.heap.size, 4, none⟩ (.int .i64 0)).setCell ⟨w.heap.size, 5, none⟩ (.string ⟨#[]⟩)).setCell ⟨w.heap.size, 6, none⟩ (.slice none 0 0)) := ((((((((Fr.refl (fun q => q = w.heap.size) w3).setCell (p := ⟨w.heap.size, 0, none⟩) (.inl rfl) (.int .i64 (101 + j))).setCell (p := ⟨w.heap.size, 1, none⟩) (.inl rfl) (.bool false)).setCell (p := ⟨w.heap.size, 2, none⟩) (.inl rfl) (.int .i64 0)).setCell (p := ⟨w.heap.size, 3, none⟩) (.inl rfl) (.int .i64 0)).setCell (p := ⟨w.heap.size, 4, none⟩) (.inl rfl) (.int .i64 0)).setCell (p := ⟨w.heap.size, 5, none⟩) (.inl rfl) (.string ⟨#[]⟩)).setCell (p := ⟨w.heap.size, 6, none⟩) (.inl rfl) (.slice none 0 0))
  refine bodyPost_ret (results_cell_row rfl _ _ w.heap.size _ _ _ _ rfl hR2 Tryd.underlying49 rfl (by kernel_rfl)) rfl ?_
  exact ⟨rfl, HF3.out.trans hf8 (fun _ _ => id) (fun q hq e => by omega)⟩

set_option maxHeartbeats 1600000 in
theorem fault_nil (w : World) : Calls Tryd.prog 45 #[.nilIface] w fun e w' => e = .returned (bareV 0) ∧ Fr (fun _ => False) w w' := by
  go_enter Tryd.func45, Tryd.ntmps45
  go_wp2_with fail
  have hF := (Fr.refl (fun _ => False) w).alloc (.cells #[.int .i64 0, .bool false, .int .i64 0, .int .i64 0, .int .i64 0, .string ⟨#[]⟩, .slice none 0 0] 49)
  have hrow := heap_alloc_new w (.cells #[.int .i64 0, .bool false, .int .i64 0, .int .i64 0, .int .i64 0, .string ⟨#[]⟩, .slice none 0 0] 49)
  refine (none_any _).mono ?_
  rintro e w3 ⟨rfl, hf3⟩
  have HF3 := hid (hF.trans' hf3); have HRR := hid (hf3.heap hrow not_false)
  clear hF hf3 hrow
  unfold bareV
  have hR := HRR.out
  have x0 : w3.cell? ⟨w.heap.size, 0, none⟩ = some (.int .i64 0) := by rw [cell_of_row _ _ 0 _ _ _ hR]; rfl
  have x1 : w3.cell? ⟨w.heap.size, 1, none⟩ = some (.bool false) := by rw [cell_of_row _ _ 1 _ _ _ hR]; rfl
  have x2 : w3.cell? ⟨w.heap.size, 2, none⟩ = some (.int .i64 0) := by rw [cell_of_row _ _ 2 _ _ _ hR]; rfl
  have x3 : w3.cell? ⟨w.heap.size, 3, none⟩ = some (.int .i64 0) := by rw [cell_of_row _ _ 3 _ _ _ hR]; rfl
  have x4 : w3.cell? ⟨w.heap.size, 4, none⟩ = some (.int .i64 0) := by rw [cell_of_row _ _ 4 _ _ _ hR]; rfl
  have x5 : w3.cell? ⟨w.heap.size, 5, none⟩ = some (.string ⟨#[]⟩) := by rw [cell_of_row _ _ 5 _ _ _ hR]; rfl
  have x6 : w3.cell? ⟨w.heap.size, 6, none⟩ = some (.slice none 0 0) := by rw [cell_of_row _ _ 6 _ _ _ hR]; rfl
  have fz : ∀ i, w3.frozen? ⟨w.heap.size, i, none⟩ = false := fun i => frozen_of_row _ _ i _ _ hR
  clear hR
  go_wp2_with fail
  have hR2 := (setCell_row 6 (.slice none 0 0) (setCell_row 5 (.string ⟨#[]⟩) (setCell_row 4 (.int .i64 0) (setCell_row 3 (.int .i64 0) (setCell_row 2 (.int .i64 0) (setCell_row 1 (.bool false) (setCell_row 0 (.int .i64 0) HRR.out)))))))
  simp only [List.setIfInBounds_toArray, List.set_cons_zero, List.set_cons_succ] at hR2
  have hf8 : Fr (fun q => q = w.heap.size) w3 (((((((w3.setCell ⟨w.heap.size, 0, none⟩ (.int .i64 0)).setCell ⟨w.heap.size, 1, none⟩ (.bool false)).setCell ⟨w.heap.size, 2, none⟩ (.int .i64 0)).setCell ⟨w.heap.size, 3, none⟩ (.int .i64 0)).setCell ⟨w.heap.size, 4, none⟩ (.int .i64 0)).setCell ⟨w.heap.size, 5, none⟩ (.string ⟨#[]⟩)).setCell ⟨w.heap.size, 6, none⟩ (.slice none 0 0)) := ((((((((Fr.refl (fun q => q = w.heap.size) w3).setCell (p := ⟨w.heap.size, 0, none⟩) (.inl rfl) (.int .i64 0)).setCell (p := ⟨w.heap.size, 1, none⟩) (.inl rfl) (.bool false)).setCell (p := ⟨w.heap.size, 2, none⟩) (.inl rfl) (.int .i64 0)).setCell (p := ⟨w.heap.size, 3, none⟩) (.inl rfl) (.int .i64 0)).setCell (p := ⟨w.heap.size, 4, none⟩) (.inl rfl) (.int .i64 0)).setCell (p := ⟨w.heap.size, 5, none⟩) (.inl rfl) (.string ⟨#[]⟩)).setCell (p := ⟨w.heap.size, 6, none⟩) (.inl rfl) (.slice none 0 0))
  refine bodyPost_ret (results_cell_row rfl _ _ w.heap.size _ _ _ _ rfl hR2 Tryd.underlying49 rfl (by kernel_rfl)) rfl ?_
  exact ⟨rfl, HF3.out.trans hf8 (fun _ _ => id) (fun q hq e => by omega)⟩
set_option maxHeartbeats 1600000 in
theorem seesame_num (w : World) (e : Value) (m c : Int) (hf : ∀ w', Fr (fun _ => False) w w' → Calls Tryd.prog 45 #[e] w' fun x w'' => x = .returned (bareV m) ∧ Fr (fun _ => False) w' w'') :
    Calls Tryd.prog 25 #[e, bareV c] w fun x w' => x = .returned (.bool (decide (m = c))) ∧ Fr (fun _ => False) w w' := by
  have HC := hid hf
  clear hf
  have hb := heap_alloc_new w (.cells #[.int .i64 c, .bool false, .int .i64 0, .int .i64 0, .int .i64 0, .string ⟨#[]⟩, .slice none 0 0] 49)
  have hF := (Fr.refl (fun _ => False) w).alloc (.cells #[.int .i64 c, .bool false, .int .i64 0, .int .i64 0, .int .i64 0, .string ⟨#[]⟩, .slice none 0 0] 49)
  have hsf := fun w' => samefault_num m c w'
  have HSF := hid hsf
  clear hsf
  unfold bareV at HC HSF ⊢
  go_enter Tryd.func25, Tryd.ntmps25
  go_upto_region 1 with fail
  generalize w.alloc (.cells #[.int .i64 c, .bool false, .int .i64 0, .int .i64 0, .int .i64 0, .string ⟨#[]⟩, .slice none 0 0] 49) = W at *
  have HF := hid hF
  clear hF
  refine wp_region_cls (fun w' => Fr (fun _ => False) W w') (by kernel_rfl) (by kernel_rfl) (Fr.refl _ _).drew ?_
  (refine q_take ?_ (by kernel_rfl) ?_ ?_; rotate_left; (· intro w' hS; go_simp; try with_reducible rfl); (try simp only [Act.put, List.setIfInBounds_toArray, List.set_cons_zero, List.set_cons_succ]))
  (refine q_call ?_ ?_ (by kernel_rfl) ?_ ?_; rotate_left 2; (· intro w' hS; go_simp; first | with_reducible rfl | (constructor <;> with_reducible rfl)); (refine ⟨_, fun w' hw => (HC.out w' (HF.out.trans' hw)).mono fun _ _ h => ⟨h.1, hw.trans' h.2⟩, ?_⟩); (try simp only [Act.put, List.setIfInBounds_toArray, List.set_cons_zero, List.set_cons_succ]))
  (refine q_load (by kernel_rfl) rfl rfl (fun w' hw => Fr.heap hw hb not_false) (by kernel_rfl) (by kernel_rfl) ?_; (try simp only [Act.put, List.setIfInBounds_toArray, List.set_cons_zero, List.set_cons_succ]))
  (refine q_call ?_ ?_ (by kernel_rfl) ?_ ?_; rotate_left 2; (· intro w' hS; go_simp; first | with_reducible rfl | (constructor <;> with_reducible rfl)); (refine ⟨_, fun w' hw => (HSF.out w').mono fun _ _ h => ⟨h.1, hw.trans' h.2⟩, ?_⟩); (try simp only [Act.put, List.setIfInBounds_toArray, List.set_cons_zero, List.set_cons_succ]))
  (refine q_take ?_ (by kernel_rfl) ?_ ?_; rotate_left; (· intro w' hS; go_simp; try with_reducible rfl); (try simp only [Act.put, List.setIfInBounds_toArray, List.set_cons_zero, List.set_cons_succ]))
  refine q_end (fun W6 hw => ?_)
  have HW := hid (HF.out.trans' hw)
  clear hw
  go_wp2
  go_ret
  exact ⟨rfl, HW.out⟩

set_option maxHeartbeats 1600000 in
theorem seeis_num (w : World) (e : Value) (m c : Int) (hf : ∀ w', Fr (fun _ => False) w w' → Calls Tryd.prog 45 #[e] w' fun x w'' => x = .returned (bareV m) ∧ Fr (fun _ => False) w' w'') :
    Calls Tryd.prog 13 #[e, .int .i64 c] w fun x w' => x = .returned (.bool (decide (m = c))) ∧ Fr (fun _ => False) w w' := by
  have HC := hid hf
  clear hf
  go_enter Tryd.func13, Tryd.ntmps13
  go_wp2_with fail
  refine (bare_any c w).mono ?_
  rintro x w2 ⟨rfl, hf2⟩
  have hs := seesame_num w2 e m c fun w' hw => HC.out w' (hf2.trans' hw)
  have HS := hid hs; have HF2 := hid hf2
  clear hs hf2
  unfold bareV at HS ⊢
  go_wp2_with fail
  refine HS.out.mono ?_
  rintro x w3 ⟨rfl, hf3⟩
  have HF3 := hid (HF2.out.trans' hf3)
  clear hf3
  go_wp2
  go_ret
  exact ⟨rfl, HF3.out⟩


/-- The error of a number: none, or api's. -/
def errV (pa : Nat → Addr) (m : Nat) : Value := if m = 0 then .nilIface else .iface 175 (.pointer (some (pa (m - 101))))
def ErrNo (m : Nat) : Prop := m = 0 ∨ 101 ≤ m ∧ m ≤ 117
theorem is_num (w : World) (pa : Nat → Addr) (h : Sent17 w pa) (m : Nat) (hm : ErrNo m) (c : Int) : Calls Tryd.prog 13 #[errV pa m, .int .i64 c] w fun x w' => x = .returned (.bool (decide ((m : Int) = c))) ∧ Fr (fun _ => False) w w' := by
  rcases hm with rfl | ⟨h1, h2⟩
  · exact seeis_num w _ 0 c fun w' _ => fault_nil w'
  · unfold errV
    rw [if_neg (by omega)]
    refine seeis_num w _ m c fun w' hw => ?_
    have := fault_any w' pa (h.frame hw) (m - 101) (by omega)
    rw [show (101 + ((m - 101 : Nat) : Int)) = (m : Int) by omega] at this
    exact this
end
section
open Go.RowKit

/-- Has a node as many as it has to have? -/
def pCounts (op : Int) (n : Nat) : Bool :=
  if op = 1 ∨ op = 2 ∨ op = 45 ∨ op = 46 then decide (n = 0) else if op = 3 ∨ op = 4 ∨ op = 26 ∨ op = 40 then decide (n = 1) else if (5 ≤ op ∧ op ≤ 18) ∨ op = 20 ∨ op = 22 then decide (n = 2)
  else if op = 19 ∨ op = 21 ∨ op = 43 then decide (n = 3) else if op = 23 ∨ op = 28 ∨ op = 41 ∨ op = 49 then decide (2 ≤ n) else if op = 24 ∨ op = 25 ∨ op = 52 then true
  else if op = 27 ∨ op = 42 ∨ op = 44 ∨ op = 48 ∨ op = 50 ∨ op = 51 then decide (n = 2) else if op = 29 then decide (n = 2) || decide (n = 3) else if op = 47 then decide (n ≤ 1) else false
/-- What has to stand in a node. -/
def pRoles (op : Int) (n : Nat) : List Int :=
  if op = 1 ∨ op = 2 ∨ op = 45 ∨ op = 46 then [] else if op = 3 ∨ op = 4 ∨ op = 26 ∨ op = 40 then List.replicate 1 0 else if (5 ≤ op ∧ op ≤ 18) ∨ op = 20 ∨ op = 22 then List.replicate 2 0
  else if op = 19 ∨ op = 21 then List.replicate 3 0 else if op = 43 then [0, 0, 6] else if op = 23 then List.replicate 2 0 ++ List.replicate (n - 2) 1 else if op = 28 then (List.replicate (n - 1) 3).set (n - 2) 4 ++ [0]
  else if op = 41 then ifL n else if op = 49 then 6 :: List.replicate (n - 1) 8 else if op = 24 ∨ op = 25 then List.replicate n 1 else if op = 52 then List.replicate n 7
  else if op = 27 then [2, 0] else if op = 42 ∨ op = 44 ∨ op = 48 then [0, 6] else if op = 50 then [5, 6] else if op = 51 then [6, 6] else if op = 29 then [0, 5, 0].take n else if op = 47 then List.replicate n 0 else []
set_option maxRecDepth 100000 in
set_option maxHeartbeats 3200000 in
theorem roles_any (op ln vk vn : Int) (s vs : ByteArray) (va : Value) (la : Option Addr) (n lc : Nat) (hn : n ≤ 1048576) (w : World) : Calls Tryd.prog 85 #[.agg #[.int .i64 op, .int .i64 ln, .string s, .int .i64 vk, .int .i64 vn, .string vs, va, .slice la n lc]] w (RolesPostC w (pRoles op n) (pCounts op n)) := by
  have hop : op < 1 ∨ 29 < op ∧ op < 40 ∨ 52 < op ∨ op = 1 ∨ op = 2 ∨ op = 3 ∨ op = 4 ∨ op = 5 ∨ op = 6 ∨ op = 7 ∨ op = 8 ∨ op = 9 ∨ op = 10 ∨ op = 11 ∨ op = 12 ∨ op = 13 ∨ op = 14 ∨ op = 15 ∨ op = 16 ∨ op = 17 ∨ op = 18 ∨ op = 19 ∨ op = 20 ∨ op = 21 ∨ op = 22 ∨ op = 23 ∨ op = 24 ∨ op = 25 ∨ op = 26 ∨ op = 27 ∨ op = 28 ∨ op = 29 ∨ op = 40 ∨ op = 41 ∨ op = 42 ∨ op = 43 ∨ op = 44 ∨ op = 45 ∨ op = 46 ∨ op = 47 ∨ op = 48 ∨ op = 49 ∨ op = 50 ∨ op = 51 ∨ op = 52 := by omega
  rcases hop with h | h | h | rfl | rfl | rfl | rfl | rfl | rfl | rfl | rfl | rfl | rfl | rfl | rfl | rfl | rfl | rfl | rfl | rfl | rfl | rfl | rfl | rfl | rfl | rfl | rfl | rfl | rfl | rfl | rfl | rfl | rfl | rfl | rfl | rfl | rfl | rfl | rfl | rfl | rfl | rfl | rfl | rfl | rfl
  · have hc : pCounts op n = false := by unfold pCounts; repeat rw [if_neg (by omega)]
    rw [hc]
    exact (rolesD_any op ln vk vn s vs va la n lc (by omega) hn w).mono fun e w' h => by obtain ⟨v, h1, h2, h3⟩ := h; exact ⟨v, h1, h2, fun h => by cases h⟩
  · have hc : pCounts op n = false := by unfold pCounts; repeat rw [if_neg (by omega)]
    rw [hc]
    exact (rolesD_any op ln vk vn s vs va la n lc (by omega) hn w).mono fun e w' h => by obtain ⟨v, h1, h2, h3⟩ := h; exact ⟨v, h1, h2, fun h => by cases h⟩
  · have hc : pCounts op n = false := by unfold pCounts; repeat rw [if_neg (by omega)]
    rw [hc]
    exact (rolesD_any op ln vk vn s vs va la n lc (by omega) hn w).mono fun e w' h => by obtain ⟨v, h1, h2, h3⟩ := h; exact ⟨v, h1, h2, fun h => by cases h⟩
  · exact (roles0_any 1 ln vk vn s vs va la n lc (by decide) hn w).mono fun e w' h => h.weak
  · exact (roles0_any 2 ln vk vn s vs va la n lc (by decide) hn w).mono fun e w' h => h.weak
  · exact (roles1_any 3 ln vk vn s vs va la n lc (by decide) hn w).mono fun e w' h => h.weak
  · exact (roles1_any 4 ln vk vn s vs va la n lc (by decide) hn w).mono fun e w' h => h.weak
  · exact (roles2_any 5 ln vk vn s vs va la n lc (by decide) hn w).mono fun e w' h => h.weak
  · exact (roles2_any 6 ln vk vn s vs va la n lc (by decide) hn w).mono fun e w' h => h.weak
  · exact (roles2_any 7 ln vk vn s vs va la n lc (by decide) hn w).mono fun e w' h => h.weak
  · exact (roles2_any 8 ln vk vn s vs va la n lc (by decide) hn w).mono fun e w' h => h.weak
  · exact (roles2_any 9 ln vk vn s vs va la n lc (by decide) hn w).mono fun e w' h => h.weak
  · exact (roles2_any 10 ln vk vn s vs va la n lc (by decide) hn w).mono fun e w' h => h.weak
  · exact (roles2_any 11 ln vk vn s vs va la n lc (by decide) hn w).mono fun e w' h => h.weak
  · exact (roles2_any 12 ln vk vn s vs va la n lc (by decide) hn w).mono fun e w' h => h.weak
  · exact (roles2_any 13 ln vk vn s vs va la n lc (by decide) hn w).mono fun e w' h => h.weak
  · exact (roles2_any 14 ln vk vn s vs va la n lc (by decide) hn w).mono fun e w' h => h.weak
  · exact (roles2_any 15 ln vk vn s vs va la n lc (by decide) hn w).mono fun e w' h => h.weak
  · exact (roles2_any 16 ln vk vn s vs va la n lc (by decide) hn w).mono fun e w' h => h.weak
  · exact (roles2_any 17 ln vk vn s vs va la n lc (by decide) hn w).mono fun e w' h => h.weak
  · exact (roles2_any 18 ln vk vn s vs va la n lc (by decide) hn w).mono fun e w' h => h.weak
  · exact (roles3_any 19 ln vk vn s vs va la n lc (by decide) hn w).mono fun e w' h => h.weak
  · exact (roles2_any 20 ln vk vn s vs va la n lc (by decide) hn w).mono fun e w' h => h.weak
  · exact (roles3_any 21 ln vk vn s vs va la n lc (by decide) hn w).mono fun e w' h => h.weak
  · exact (roles2_any 22 ln vk vn s vs va la n lc (by decide) hn w).mono fun e w' h => h.weak
  · exact (roles23_any 23 ln vk vn s vs va la n lc (by decide) hn w)
  · exact (roles24_any 24 ln vk vn s vs va la n lc (by decide) hn w)
  · exact (roles24_any 25 ln vk vn s vs va la n lc (by decide) hn w)
  · exact (roles1_any 26 ln vk vn s vs va la n lc (by decide) hn w).mono fun e w' h => h.weak
  · exact (roles27_any 27 ln vk vn s vs va la n lc (by decide) hn w).mono fun e w' h => h.weak
  · exact (roles28_any 28 ln vk vn s vs va la n lc (by decide) hn w)
  · exact (roles29_any 29 ln vk vn s vs va la n lc (by decide) hn w)
  · exact (roles1_any 40 ln vk vn s vs va la n lc (by decide) hn w).mono fun e w' h => h.weak
  · exact (roles41_any 41 ln vk vn s vs va la n lc (by decide) hn w)
  · exact (roles42_any 42 ln vk vn s vs va la n lc (by decide) hn w).mono fun e w' h => h.weak
  · exact (roles43_any 43 ln vk vn s vs va la n lc (by decide) hn w).mono fun e w' h => h.weak
  · exact (roles42_any 44 ln vk vn s vs va la n lc (by decide) hn w).mono fun e w' h => h.weak
  · exact (roles0_any 45 ln vk vn s vs va la n lc (by decide) hn w).mono fun e w' h => h.weak
  · exact (roles0_any 46 ln vk vn s vs va la n lc (by decide) hn w).mono fun e w' h => h.weak
  · exact (roles47_any 47 ln vk vn s vs va la n lc (by decide) hn w)
  · exact (roles42_any 48 ln vk vn s vs va la n lc (by decide) hn w).mono fun e w' h => h.weak
  · exact (roles49_any 49 ln vk vn s vs va la n lc (by decide) hn w)
  · exact (roles50_any 50 ln vk vn s vs va la n lc (by decide) hn w).mono fun e w' h => h.weak
  · exact (roles51_any 51 ln vk vn s vs va la n lc (by decide) hn w).mono fun e w' h => h.weak
  · exact (roles52_any 52 ln vk vn s vs va la n lc (by decide) hn w)

def fair1 (st loop : Bool) (op : Int) : Bool := st && (loop || (op != 45 && op != 46))
/-- May a node have this value? -/
def litOk (v : V) : Bool := v.k != 4 && decide (v.valid = 0) && (v.k != 0 || v.n != -9223372036854775808)
def noV (v : V) : Bool := v.k == 0 && v.n == 0 && v.s.toList.isEmpty && decide (v.l.length = 0)
def fairV (op : Int) (v : V) : Bool := if op = 1 then litOk v else noV v
def ownBad (f full is e : Bool) : Bool := !f || !full || (!is && !e)
def ownBad2 (is nm em e : Bool) : Bool := is && !nm && !(em && e)
/-- What is amiss with what a node itself has: a number of api's errors; 0: nothing. -/
def pOwn (x : Nd) (role : Int) (loop : Bool) : Nat :=
  if ownBad (fair1 (pStands x.op role) loop x.op && fairV x.op x.v) (pCounts x.op x.l.length) (pNamed x.op).1 x.s.toList.isEmpty then 103 else if ownBad2 (pNamed x.op).1 (pName x.s) (pNamed x.op).2 x.s.toList.isEmpty then 106 else 0
theorem ev_nil {pa : Nat → Addr} {n : Int} : (n = 0 → ev (errV pa 112) (errV pa 104) (errV pa 105) (errV pa 103) n = .nilIface) ∧ (n ≠ 0 → ∃ a, ev (errV pa 112) (errV pa 104) (errV pa 105) (errV pa 103) n = .iface 175 (.pointer (some a))) := by
  constructor
  · rintro rfl; rfl
  · intro h
    unfold ev
    rw [if_neg h]
    split
    · exact ⟨_, rfl⟩
    split
    · exact ⟨_, rfl⟩
    split
    · exact ⟨_, rfl⟩
    exact ⟨_, rfl⟩
theorem Sent17.errs {w : World} {pa : Nat → Addr} (h : Sent17 w pa) : Errs w (errV pa 112) (errV pa 104) (errV pa 105) (errV pa 103) :=
  ⟨h.s 11 (by decide), h.s 3 (by decide), h.s 4 (by decide), h.s 2 (by decide)⟩

set_option maxRecDepth 100000 in
set_option maxHeartbeats 6400000 in
theorem own_any (pa : Nat → Addr) (x : Nd) (role : Int) (hr0 : 0 ≤ role) (hr8 : role ≤ 8) (loop : Bool) (D : Nat → Prop) (w : World) (u : Array Value) (h : NIn D w x u) (hl : x.l.length ≤ 1048576) (hv : x.v.size ≤ 1099511627776) (hs : x.s.size ≤ 1099511627776) (hE : Sent17 w pa) (hg : 7 ≤ w.heap.size) :
    Calls Tryd.prog 84 #[.agg u, .int .i64 role, .bool loop] w fun e w' => e = .returned (errV pa (pOwn x role loop)) ∧ Fr (fun _ => False) w w' := by
  obtain ⟨va', la', rfl, ⟨va, vc, us1, rfl, hvr⟩, ⟨la, lc, us2, rfl, hlc, hlm, -⟩⟩ := h.open
  have hvl : VL D w x.v.l (.slice va x.v.l.length vc) := ⟨va, vc, us1, rfl, hvr⟩
  have hvx := hvl.close x.v.k x.v.n x.v.s
  have hvlen : x.v.l.length ≤ 9223372036854775807 := Nat.le_trans hvr.1 hvr.2.1
  have hSX := fun w => stands_any x role hr0 hr8 (.slice va x.v.l.length vc) (.slice la x.l.length lc) w
  obtain ⟨op, ln, s, v, l⟩ := x
  simp only [Nd.op, Nd.ln, Nd.s, Nd.v, Nd.l] at *
  have hvx' : VIn D w v #[.int .i64 v.k, .int .i64 v.n, .string v.s, .slice va v.l.length vc] := by
    obtain ⟨k, n, s, l⟩ := v
    exact hvx
  have hf0 := (Fr.refl (fun _ => False) w).alloc (.cells #[.int .i64 op, .int .i64 ln, .string s, .int .i64 v.k, .int .i64 v.n, .string v.s, .slice va v.l.length vc, .slice la l.length lc] 36)
  have hg0 := heap_alloc_new w (.cells #[.int .i64 op, .int .i64 ln, .string s, .int .i64 v.k, .int .i64 v.n, .string v.s, .slice va v.l.length vc, .slice la l.length lc] 36)
  have hE0 := hE.frame hf0
  have hVV : ∀ w2, Fr (fun _ => False) (w.alloc (.cells #[.int .i64 op, .int .i64 ln, .string s, .int .i64 v.k, .int .i64 v.n, .string v.s, .slice va v.l.length vc, .slice la l.length lc] 36)) w2 → Calls Tryd.prog 100 #[.agg #[.int .i64 v.k, .int .i64 v.n, .string v.s, .slice va v.l.length vc]] w2 fun e w' => e = .returned (ev (errV pa 112) (errV pa 104) (errV pa 105) (errV pa 103) v.valid) ∧ Fr (fun _ => False) w2 w' := fun w2 hf =>
    vvalid_any _ _ _ _ ⟨_, _, rfl⟩ ⟨_, _, rfl⟩ ⟨_, _, rfl⟩ ⟨_, _, rfl⟩ v hv D w2 _ ((hvx'.frame hf0 fun _ _ => not_false).frame hf fun _ _ => not_false) (hE0.frame hf).errs (by have := hf0.size; have := hf.size; omega)
  have HSX := hid hSX; have HF0 := hid hf0; have HG0 := hid hg0; have HE0 := hid hE0; have HVV := hid hVV
  have HRO := hid (roles_any op ln v.k v.n s v.s (.slice va v.l.length vc) la l.length lc hl)
  have HNM := hid (fun w => name_any s hs w)
  have HL := hid hl; have HS := hid hs
  have hp : pOwn (.mk op ln s v l) role loop = if ownBad (fair1 (pStands op role) loop op && fairV op v) (pCounts op l.length) (pNamed op).1 s.toList.isEmpty then 103 else if ownBad2 (pNamed op).1 (pName s) (pNamed op).2 s.toList.isEmpty then 106 else 0 := rfl
  have HP := hid hp
  have HLIT := hid (show litOk v = (v.k != 4 && decide (v.valid = 0) && (v.k != 0 || v.n != -9223372036854775808)) from rfl)
  have HNOV := hid (show noV v = (v.k == 0 && v.n == 0 && v.s.toList.isEmpty && decide (v.l.length = 0)) from rfl)
  have HFV := hid (show fairV op v = if op = 1 then litOk v else noV v from rfl)
  have hvs : v.s.size ≤ 9223372036854775807 := by have := V.size_eq v; omega
  generalize fairV op v = fv at *
  generalize litOk v = lo at *
  generalize noV v = nv at *
  generalize v.valid = vv at *
  generalize v.k = vk at *
  generalize v.n = vn at *
  generalize v.s = vs at *
  generalize v.l.length = vlen at *
  generalize pOwn (.mk op ln s v l) role loop = r0 at *
  clear h hvl hvx hvx' hf0 hg0 hE0 hVV hSX hE hvr us1 us2 hv hlc hlm hp
  generalize l.length = n at *
  generalize pStands op role = st at *
  generalize pCounts op n = full at *
  generalize hnm : pNamed op = nm at *
  obtain ⟨is, em⟩ := nm
  have HNMD := hid (named_any op)
  rw [hnm] at HNMD
  simp only at HNMD ⊢
  clear hnm
  generalize pName s = pn at *
  generalize hse : s.toList.isEmpty = se at *
  have HSE := hid hse
  go_enter Tryd.func84, Tryd.ntmps84
  go_upto_region 1 with fail
  generalize w.alloc (.cells #[.int .i64 op, .int .i64 ln, .string s, .int .i64 vk, .int .i64 vn, .string vs, .slice va vlen vc, .slice la n lc] 36) = W0 at *
  go_cut [7] from 12 to 27 (fun c wx => c = .bool (fair1 st loop op) ∧ Hid (Fr (fun _ => False) W0 wx))
  case first =>
    have d0 : W0.cell? ⟨w.heap.size, 0, none⟩ = some (.int .i64 op) := by rw [cell_of_row _ _ 0 _ _ _ HG0.out]; rfl
    have d1 : W0.cell? ⟨w.heap.size, 1, none⟩ = some (.int .i64 ln) := by rw [cell_of_row _ _ 1 _ _ _ HG0.out]; rfl
    have d2 : W0.cell? ⟨w.heap.size, 2, none⟩ = some (.string s) := by rw [cell_of_row _ _ 2 _ _ _ HG0.out]; rfl
    have d3 : W0.cell? ⟨w.heap.size, 3, none⟩ = some (.int .i64 vk) := by rw [cell_of_row _ _ 3 _ _ _ HG0.out]; rfl
    have d4 : W0.cell? ⟨w.heap.size, 4, none⟩ = some (.int .i64 vn) := by rw [cell_of_row _ _ 4 _ _ _ HG0.out]; rfl
    have d5 : W0.cell? ⟨w.heap.size, 5, none⟩ = some (.string vs) := by rw [cell_of_row _ _ 5 _ _ _ HG0.out]; rfl
    have d6 : W0.cell? ⟨w.heap.size, 6, none⟩ = some (.slice va vlen vc) := by rw [cell_of_row _ _ 6 _ _ _ HG0.out]; rfl
    have d7 : W0.cell? ⟨w.heap.size, 7, none⟩ = some (.slice la n lc) := by rw [cell_of_row _ _ 7 _ _ _ HG0.out]; rfl
    go_wp2_with fail
    refine (HSX.out _).mono ?_
    rintro e w2 ⟨rfl, hf2⟩
    replace d0 := hf2.cell d0 not_false
    have HFA := hid hf2
    clear hf2 d1 d2 d3 d4 d5 d6 d7
    have HFR := hid (show fair1 st loop op = (st && (loop || (op != 45 && op != 46))) from rfl)
    generalize fair1 st loop op = fr at *
    cases st
    · go_wp2_with fail
      go_meet
      exact ⟨by rw [HFR.out]; rfl, HFA⟩
    · cases loop
      · by_cases h1 : op = 45
        · subst h1
          go_wp2_with fail
          go_meet
          exact ⟨by rw [HFR.out]; rfl, HFA⟩
        · have q1 : (op != 45) = true := by simpa using h1
          by_cases h2 : op = 46
          · subst h2
            go_wp2_with fail
            go_meet
            exact ⟨by rw [HFR.out]; rfl, HFA⟩
          · have q2 : (op != 46) = true := by simpa using h2
            have HQ := hid (show fr = true by rw [HFR.out, q1, q2]; rfl)
            clear h1 h2
            go_wp2_with fail
            go_meet
            exact ⟨by rw [HQ.out], HFA⟩
      · go_wp2_with fail
        go_meet
        exact ⟨by rw [HFR.out]; rfl, HFA⟩
  case rest =>
  obtain ⟨rfl, HF1⟩ := hcut
  generalize fair1 st loop op = f1 at *
  obtain ⟨W1, hW1⟩ : ∃ W, W = wc := ⟨wc, rfl⟩
  rw [← hW1] at HF1 ⊢
  clear hW1 wc
  have hg1 := HF1.out.heap HG0.out not_false
  have d0 : W1.cell? ⟨w.heap.size, 0, none⟩ = some (.int .i64 op) := by rw [cell_of_row _ _ 0 _ _ _ hg1]; rfl
  have d3 : W1.cell? ⟨w.heap.size, 3, none⟩ = some (.int .i64 vk) := by rw [cell_of_row _ _ 3 _ _ _ hg1]; rfl
  have d4 : W1.cell? ⟨w.heap.size, 4, none⟩ = some (.int .i64 vn) := by rw [cell_of_row _ _ 4 _ _ _ hg1]; rfl
  have d5 : W1.cell? ⟨w.heap.size, 5, none⟩ = some (.string vs) := by rw [cell_of_row _ _ 5 _ _ _ hg1]; rfl
  have d6 : W1.cell? ⟨w.heap.size, 6, none⟩ = some (.slice va vlen vc) := by rw [cell_of_row _ _ 6 _ _ _ hg1]; rfl
  have HG1 := hid hg1
  clear hg1
  obtain ⟨o1, ho1⟩ : ∃ b, (op == 1) = b := ⟨_, rfl⟩
  go_upto_if 30 with fail
  go_cut [7] from 31 to 81 (fun c wx => c = .bool (f1 && fv) ∧ Hid (Fr (fun _ => False) W1 wx))
  case first =>
    have HR1 := hid (Fr.refl (fun _ => False) W1)
    cases o1
    case true =>
      obtain rfl : op = 1 := by simpa using ho1
      clear ho1
      have HFV2 := hid (show fv = lo by rw [HFV.out, if_pos rfl])
      cases f1
      · go_wp2_with fail
        go_meet
        exact ⟨rfl, HR1⟩
      by_cases h4 : vk = 4
      · subst h4
        have HX := hid (show fv = false by rw [HFV2.out, HLIT.out]; rfl)
        go_wp2_with fail
        go_meet
        exact ⟨by rw [HX.out]; rfl, HR1⟩
      have q4 : (vk != 4) = true := by simpa using h4
      have hcell : ∀ j, j < 4 → W1.cell? ⟨w.heap.size, 3 + j, none⟩ = #[.int .i64 vk, .int .i64 vn, .string vs, .slice va vlen vc][j]? := by
        intro j hj
        rcases j with _ | _ | _ | _ | j
        · exact d3
        · exact d4
        · exact d5
        · exact d6
        · omega
      go_wp2_with fail
      refine (HVV.out _ HF1.out).mono ?_
      rintro e w2 ⟨rfl, hf2⟩
      replace d0 := hf2.cell d0 not_false
      replace d3 := hf2.cell d3 not_false
      replace d4 := hf2.cell d4 not_false
      have HFA := hid hf2
      clear hf2 hcell d5 d6
      by_cases h5 : vv = 0
      · have hev := hid (ev_nil (pa := pa).1 h5)
        rw [hev.out]
        by_cases h6 : vk = 0
        · subst h6
          by_cases h7 : vn = -9223372036854775808
          · subst h7
            have HX := hid (show fv = false by rw [HFV2.out, HLIT.out, h5]; rfl)
            go_wp2_with fail
            go_meet
            exact ⟨by rw [HX.out]; rfl, HFA⟩
          · have q7 : (vn != -9223372036854775808) = true := by simpa using h7
            have HX := hid (show fv = true by rw [HFV2.out, HLIT.out, h5, q7]; rfl)
            go_wp2_with fail
            go_meet
            exact ⟨by rw [HX.out]; rfl, HFA⟩
        · have q6 : (vk != 0) = true := by simpa using h6
          have HX := hid (show fv = true by rw [HFV2.out, HLIT.out, h5, q4, q6]; rfl)
          go_wp2_with fail
          go_meet
          exact ⟨by rw [HX.out]; rfl, HFA⟩
      · obtain ⟨a, ha⟩ := (ev_nil (pa := pa)).2 h5
        rw [ha]
        have HX := hid (show fv = false by rw [HFV2.out, HLIT.out, decide_eq_false h5, Bool.and_false, Bool.false_and])
        go_wp2_with fail
        go_meet
        exact ⟨by rw [HX.out]; rfl, HFA⟩
    case false =>
      have ho : op ≠ 1 := by simpa using ho1
      have HFV2 := hid (show fv = nv by rw [HFV.out, if_neg ho])
      clear ho
      cases f1
      · go_wp2_with fail
        go_meet
        exact ⟨rfl, HR1⟩
      by_cases h1 : vk = 0
      · by_cases h2 : vn = 0
        · subst h1 h2
          have HX := hid (show fv = (vs.toList.isEmpty && decide (vlen = 0)) by rw [HFV2.out, HNOV.out]; simp)
          have hvl0 : ((vlen : Int) == 0) = decide (vlen = 0) := by
            by_cases h : vlen = 0
            · subst h; rfl
            · rw [decide_eq_false h, beq_eq_false_iff_ne]; omega
          cases he9 : vs.toList.isEmpty
          · have HX2 := hid (show fv = false by rw [HX.out, he9]; rfl)
            go_wp2_with fail
            go_meet
            exact ⟨by rw [HX2.out]; rfl, HR1⟩
          · have HX2 := hid (show fv = decide (vlen = 0) by rw [HX.out, he9]; rfl)
            generalize decide (vlen = 0) = l9 at *
            go_wp2_with fail
            go_meet
            exact ⟨by rw [HX2.out]; rfl, HR1⟩
        · have q2 : (vn == 0) = false := by simpa using h2
          have HX := hid (show fv = false by rw [HFV2.out, HNOV.out, q2]; simp)
          subst h1
          clear h2
          go_wp2_with fail
          go_meet
          exact ⟨by rw [HX.out]; rfl, HR1⟩
      · have q2 : (vk == 0) = false := by simpa using h1
        have HX := hid (show fv = false by rw [HFV2.out, HNOV.out, q2]; simp)
        clear h1
        go_wp2_with fail
        go_meet
        exact ⟨by rw [HX.out]; rfl, HR1⟩
  case rest =>
  obtain ⟨rfl, HF2⟩ := hcut
  generalize (f1 && fv) = f2 at *
  obtain ⟨W2, hW2⟩ : ∃ W, W = wc := ⟨wc, rfl⟩
  rw [← hW2] at HF2 ⊢
  clear hW2 wc
  have HF02 := hid (HF1.out.trans' HF2.out)
  have hg2 := HF02.out.heap HG0.out not_false
  clear d0 d3 d4 d5 d6 HVV HSX HLIT HNOV HFV
  have d0 : W2.cell? ⟨w.heap.size, 0, none⟩ = some (.int .i64 op) := by rw [cell_of_row _ _ 0 _ _ _ hg2]; rfl
  have d1 : W2.cell? ⟨w.heap.size, 1, none⟩ = some (.int .i64 ln) := by rw [cell_of_row _ _ 1 _ _ _ hg2]; rfl
  have d2 : W2.cell? ⟨w.heap.size, 2, none⟩ = some (.string s) := by rw [cell_of_row _ _ 2 _ _ _ hg2]; rfl
  have d3 : W2.cell? ⟨w.heap.size, 3, none⟩ = some (.int .i64 vk) := by rw [cell_of_row _ _ 3 _ _ _ hg2]; rfl
  have d4 : W2.cell? ⟨w.heap.size, 4, none⟩ = some (.int .i64 vn) := by rw [cell_of_row _ _ 4 _ _ _ hg2]; rfl
  have d5 : W2.cell? ⟨w.heap.size, 5, none⟩ = some (.string vs) := by rw [cell_of_row _ _ 5 _ _ _ hg2]; rfl
  have d6 : W2.cell? ⟨w.heap.size, 6, none⟩ = some (.slice va vlen vc) := by rw [cell_of_row _ _ 6 _ _ _ hg2]; rfl
  have d7 : W2.cell? ⟨w.heap.size, 7, none⟩ = some (.slice la n lc) := by rw [cell_of_row _ _ 7 _ _ _ hg2]; rfl
  go_wp2_with fail
  refine (HRO.out _).mono ?_
  rintro e w3 ⟨v3, rfl, hf3, -⟩
  replace d0 := hf3.cell d0 not_false
  replace d2 := hf3.cell d2 not_false
  have HF03 := hid (HF02.out.trans' hf3)
  clear hf3 d1 d3 d4 d5 d6 d7 hg2
  go_wp2_with fail
  refine (HNMD.out _).mono ?_
  rintro e w4 ⟨rfl, rfl⟩
  go_upto_region 7 with fail
  go_cut [107] from 93 to 107 (fun c wx => c = .bool (ownBad f2 full is se) ∧ w3 = wx)
  case first =>
    have HB := hid (show ownBad f2 full is se = (!f2 || !full || (!is && !se)) from rfl)
    generalize ownBad f2 full is se = bad at *
    cases f2
    · go_wp2_with fail
      go_meet
      exact ⟨by rw [HB.out]; rfl, rfl⟩
    cases full
    · go_wp2_with fail
      go_meet
      exact ⟨by rw [HB.out]; rfl, rfl⟩
    cases is
    · go_wp2_with fail
      go_meet
      exact ⟨by rw [HB.out]; simp, rfl⟩
    · go_wp2_with fail
      go_meet
      exact ⟨by rw [HB.out]; rfl, rfl⟩
  case rest =>
  obtain ⟨rfl, rfl⟩ := hcut
  generalize ownBad f2 full is se = bad at *
  have HB2 := hid (show ownBad2 is pn em se = (is && !pn && !(em && se)) from rfl)
  generalize ownBad2 is pn em se = bad2 at *
  have s2 : w3.cell? ⟨0, 0, none⟩ = some (errV pa 103) := HF03.out.cell (HE0.out.s 2 (by decide)) not_false
  have s5 : w3.cell? ⟨5, 0, none⟩ = some (errV pa 106) := HF03.out.cell (HE0.out.s 5 (by decide)) not_false
  have HFW := hid (HF0.out.trans' HF03.out)
  have HN0 := hid (show errV pa 0 = .nilIface from rfl)
  have HE3 := hid (show ∀ n, n = 103 ∨ n = 106 → ∃ a, errV pa n = .iface 175 (.pointer (some a)) from fun n h => by rcases h with rfl | rfl <;> exact ⟨_, rfl⟩)
  cases bad
  · cases is
    · have HX := hid (show bad2 = false by rw [HB2.out]; rfl)
      clear s2 s5
      go_wp2_with fail
      go_ret
      exact ⟨by rw [HP.out, HX.out]; rfl, HFW.out⟩
    · have HS5 := hid s5
      clear s2 s5
      go_wp2_with fail
      refine (HNM.out _).mono ?_
      rintro e w5 ⟨rfl, hf5⟩
      have HFW5 := hid (HFW.out.trans' hf5)
      have s5 := hf5.cell HS5.out not_false
      replace d2 := hf5.cell d2 not_false
      clear hf5
      cases pn
      · cases em
        · have HX := hid (show bad2 = true by rw [HB2.out]; rfl)
          go_wp2_with fail
          go_ret
          exact ⟨by rw [HP.out, HX.out]; rfl, HFW5.out⟩
        · have HX := hid (show bad2 = !se by rw [HB2.out]; simp)
          cases se
          · go_wp2_with fail
            go_ret
            exact ⟨by rw [HP.out, HX.out]; rfl, HFW5.out⟩
          · go_wp2_with fail
            go_ret
            exact ⟨by rw [HP.out, HX.out]; rfl, HFW5.out⟩
      · have HX := hid (show bad2 = false by rw [HB2.out]; simp)
        go_wp2_with fail
        go_ret
        exact ⟨by rw [HP.out, HX.out]; rfl, HFW5.out⟩
  · clear s5
    go_wp2_with fail
    go_ret
    exact ⟨by rw [HP.out]; rfl, HFW.out⟩
end
section
open Go.RowKit

mutual
/-- How much a node holds of all. -/
def Nd.sz : Nd → Nat
  | .mk _ _ s v l => 1 + s.size + v.size + szL l
def szL : List Nd → Nat
  | [] => 0
  | x :: r => Nd.sz x + szL r
end
theorem Nd.sz_eq (x : Nd) : x.sz = 1 + x.s.size + x.v.size + szL x.l := by cases x; simp [Nd.sz, Nd.l, Nd.s, Nd.v]
theorem szL_mem : ∀ {l : List Nd} {k : Nat} {x : Nd}, l[k]? = some x → x.sz ≤ szL l
  | [], k, x, h => by simp at h
  | y :: r, 0, x, h => by
    simp at h
    subst h
    simp [szL]
  | y :: r, k + 1, x, h => by
    have := szL_mem (l := r) (k := k) (by simpa using h)
    simp only [szL]
    omega
mutual
theorem Nd.cnt_sz : ∀ (x : Nd), x.cnt ≤ x.sz
  | .mk _ _ s v l => by
    have := cntL_szL l
    simp only [Nd.sz, Nd.cnt]
    omega
theorem cntL_szL : ∀ (l : List Nd), cntL l ≤ szL l
  | [] => by simp [cntL]
  | x :: r => by
    have h1 := Nd.cnt_sz x
    have h2 := cntL_szL r
    simp only [szL, cntL]
    omega
end

/-- The role of a child: its own, or what its father's place makes of it. -/
def rW (role op : Int) (i : Nat) (r : Int) : Int := if role = 5 then 0 else if role = 2 ∧ op = 20 ∧ i = 0 then 2 else if role = 4 ∧ op = 26 then 3 else r
def inW (op : Int) (loop : Bool) (r : Int) : Bool := (loop && op != 48) || (pLoops op && r == 6)
mutual
/-- What is first amiss with a node, and what it has: the error's number (0: nothing), and the line. -/
def pWalk : Nd → Int → Bool → Nat × Int
  | .mk op ln s v l, role, loop => if pOwn (.mk op ln s v l) role loop = 0 then pWalkL op role loop (pRoles op l.length) 0 l else (pOwn (.mk op ln s v l) role loop, ln)
def pWalkL (op role : Int) (loop : Bool) (R : List Int) : Nat → List Nd → Nat × Int
  | _, [] => (0, 0)
  | i, y :: r => if (pWalk y (rW role op i (R.getD i 0)) (inW op loop (rW role op i (R.getD i 0)))).1 = 0 then pWalkL op role loop R (i + 1) r else pWalk y (rW role op i (R.getD i 0)) (inW op loop (rW role op i (R.getD i 0)))
end
theorem pWalk_eq (x : Nd) (role : Int) (loop : Bool) : pWalk x role loop = if pOwn x role loop = 0 then pWalkL x.op role loop (pRoles x.op x.l.length) 0 x.l else (pOwn x role loop, x.ln) := by
  obtain ⟨op, ln, s, v, l⟩ := x
  rw [pWalk]
  rfl
theorem pWalkL_nil (op role : Int) (loop : Bool) (R : List Int) (i : Nat) : pWalkL op role loop R i [] = (0, 0) := by rw [pWalkL]
theorem pWalkL_cons (op role : Int) (loop : Bool) (R : List Int) (i : Nat) (y : Nd) (r : List Nd) : pWalkL op role loop R i (y :: r) = if (pWalk y (rW role op i (R.getD i 0)) (inW op loop (rW role op i (R.getD i 0)))).1 = 0 then pWalkL op role loop R (i + 1) r else pWalk y (rW role op i (R.getD i 0)) (inW op loop (rW role op i (R.getD i 0))) := by rw [pWalkL]
theorem drop_at {l : List Nd} {k : Nat} {y : Nd} (h : l[k]? = some y) : l.drop k = y :: l.drop (k + 1) := by
  obtain ⟨hk, rfl⟩ := List.getElem?_eq_some_iff.1 h
  exact (List.drop_eq_getElem_cons hk)
theorem pWalkL_step {op role : Int} {loop : Bool} {R : List Int} {l : List Nd} {k : Nat} {y : Nd} (h : l[k]? = some y) : pWalkL op role loop R k (l.drop k) = if (pWalk y (rW role op k (R.getD k 0)) (inW op loop (rW role op k (R.getD k 0)))).1 = 0 then pWalkL op role loop R (k + 1) (l.drop (k + 1)) else pWalk y (rW role op k (R.getD k 0)) (inW op loop (rW role op k (R.getD k 0))) := by
  rw [drop_at h, pWalkL_cons]

/-- An error with its place, or none. -/
def AtV (pa : Nat → Addr) (w : World) (q : Nat × Int) (v : Value) : Prop :=
  (q.1 = 0 ∧ v = .nilIface) ∨ (q.1 ≠ 0 ∧ ∃ b, v = .iface 121 (.pointer (some ⟨b, 0, none⟩)) ∧ w.heap[b]? = some (.cells #[.int .i64 q.2, errV pa q.1] 124))
theorem AtV.frame {pa : Nat → Addr} {w w' : World} {q : Nat × Int} {v : Value} (h : AtV pa w q v) (hf : Fr (fun _ => False) w w') : AtV pa w' q v := by
  rcases h with h | ⟨h, b, e, hb⟩
  · exact .inl h
  · exact .inr ⟨h, b, e, hf.heap hb not_false⟩

theorem ifL_length (n : Nat) : (ifL n).length = n := by
  unfold ifL
  split <;> simp
theorem pRoles_len (op : Int) (n : Nat) (h : pCounts op n = true) : (pRoles op n).length = n := by
  unfold pCounts at h
  unfold pRoles
  have hop : op = 1 ∨ op = 2 ∨ op = 45 ∨ op = 46 ∨ op = 3 ∨ op = 4 ∨ op = 26 ∨ op = 40 ∨ (5 ≤ op ∧ op ≤ 18) ∨ op = 20 ∨ op = 22 ∨ op = 19 ∨ op = 21 ∨ op = 43 ∨ op = 23 ∨ op = 28 ∨ op = 41 ∨ op = 49 ∨ op = 24 ∨ op = 25 ∨ op = 52 ∨ op = 27 ∨ op = 42 ∨ op = 44 ∨ op = 48 ∨ op = 50 ∨ op = 51 ∨ op = 29 ∨ op = 47 ∨ (¬ (op = 1 ∨ op = 2 ∨ op = 45 ∨ op = 46) ∧ ¬ (op = 3 ∨ op = 4 ∨ op = 26 ∨ op = 40) ∧ ¬ ((5 ≤ op ∧ op ≤ 18) ∨ op = 20 ∨ op = 22) ∧ ¬ (op = 19 ∨ op = 21 ∨ op = 43) ∧ ¬ (op = 23 ∨ op = 28 ∨ op = 41 ∨ op = 49) ∧ ¬ (op = 24 ∨ op = 25 ∨ op = 52) ∧ ¬ (op = 27 ∨ op = 42 ∨ op = 44 ∨ op = 48 ∨ op = 50 ∨ op = 51) ∧ op ≠ 29 ∧ op ≠ 47) := by omega
  rcases hop with rfl | rfl | rfl | rfl | rfl | rfl | rfl | rfl | ⟨h1, h2⟩ | rfl | rfl | rfl | rfl | rfl | rfl | rfl | rfl | rfl | rfl | rfl | rfl | rfl | rfl | rfl | rfl | rfl | rfl | rfl | rfl | ⟨a1, a2, a3, a4, a5, a6, a7, a8, a9⟩
  case inr.inr.inr.inr.inr.inr.inr.inr.inl =>
    rw [if_neg (by omega), if_neg (by omega), if_pos (by omega)] at h
    rw [if_neg (by omega), if_neg (by omega), if_pos (by omega)]
    simp at h
    simp [h]
  case inr.inr.inr.inr.inr.inr.inr.inr.inr.inr.inr.inr.inr.inr.inr.inr.inr.inr.inr.inr.inr.inr.inr.inr.inr.inr.inr.inr.inr => rw [if_neg a1, if_neg a2, if_neg a3, if_neg a4, if_neg a5, if_neg a6, if_neg a7, if_neg a8, if_neg a9] at h; cases h
  all_goals simp [ifL_length] at h ⊢
  all_goals omega
end
end Go.Proofs.YtbegahbagnflnaaDoor
