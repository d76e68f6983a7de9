/- VWalk, RefRight, VValid, TreeE, TreeF, RdP, RdB: several texts in one: a claim has at most 60 files -/
import Derived.Test.YtbegahbagnflnaaDoorMa05
import Derived.Test.YtbegahbagnflnaaDoorMa03
import Derived.Test.YtbegahbagnflnaaDoorMa04
import Derived.Test.YtbegahbagnflnaaDoorMa02
import Derived.Deep.CutRange
import Derived.Test.YtbegahbagnflnaaDoorMa01
set_option linter.unusedSimpArgs false
set_option linter.unusedVariables false
set_option linter.unnecessarySimpa false
namespace Go.Proofs.YtbegahbagnflnaaDoor
section
open Go.RowKit

def strOf (k : Int) (s : ByteArray) : Nat := if k = 2 then s.size else 0
mutual
def V.vw : V → Nat → Nat → Int × Nat
  | .mk k n s l, deep, left => if 40 < deep then (112, left) else if left ≤ strOf k s then (104, left) else
    if ownCode k n s l.isEmpty = 0 then vwL l (deep + 1) (left - (1 + strOf k s)) else (ownCode k n s l.isEmpty, left - (1 + strOf k s))
def vwL : List V → Nat → Nat → Int × Nat
  | [], _, left => (0, left)
  | x :: r, deep, left => if (V.vw x deep left).1 = 0 then vwL r deep (V.vw x deep left).2 else V.vw x deep left
end
theorem V.vw_eq (x : V) (deep left : Nat) : x.vw deep left = if 40 < deep then (112, left) else if left ≤ strOf x.k x.s then (104, left) else
    if ownCode x.k x.n x.s x.l.isEmpty = 0 then vwL x.l (deep + 1) (left - (1 + strOf x.k x.s)) else (ownCode x.k x.n x.s x.l.isEmpty, left - (1 + strOf x.k x.s)) := by
  cases x; simp only [V.vw, V.k, V.n, V.s, V.l]; rfl
theorem vwL_drop (l : List V) (k deep z : Nat) (x : V) (h : l[k]? = some x) : vwL (l.drop k) deep z = if (x.vw deep z).1 = 0 then vwL (l.drop (k + 1)) deep (x.vw deep z).2 else x.vw deep z := by
  have hk := (List.getElem?_eq_some_iff.1 h).1
  rw [List.drop_eq_getElem_cons hk]
  have : l[k] = x := (List.getElem?_eq_some_iff.1 h).2
  rw [this, vwL]
mutual
theorem V.vw_le : ∀ (x : V) (deep left : Nat), (x.vw deep left).2 ≤ left
  | .mk k n s l, deep, left => by
    have h2 := vwL_le l (deep + 1) (left - (1 + strOf k s))
    simp only [V.vw]
    repeat' split
    all_goals try simp only
    all_goals omega
theorem vwL_le : ∀ (l : List V) (deep left : Nat), (vwL l deep left).2 ≤ left
  | [], deep, left => by simp [vwL]
  | x :: r, deep, left => by
    have h1 := V.vw_le x deep left
    have h2 := vwL_le r deep (x.vw deep left).2
    simp only [vwL]
    split <;> omega
end

def IsErr (e : Value) : Prop := ∃ t v, e = .iface t v
theorem ev_iface {eD eM eR eS : Value} (h1 : IsErr eD) (h2 : IsErr eM) (h3 : IsErr eR) (h4 : IsErr eS) {n : Int} (hn : n ≠ 0) : IsErr (ev eD eM eR eS n) := by
  unfold ev
  rw [if_neg hn]
  repeat' split
  all_goals assumption

/-- What one call of walk leaves: the block B holds what is left. -/
def VwPost (eD eM eR eS : Value) (B : Nat) (w : World) (r : Int × Nat) (e : Ending) (w' : World) : Prop :=
  e = .returned (ev eD eM eR eS r.1) ∧ Fr (fun b => b = B) w w' ∧ w'.heap[B]? = some (.cells #[.int .i64 r.2] 3)

set_option maxHeartbeats 3200000 in
theorem vw_any (eD eM eR eS : Value) (i1 : IsErr eD) (i2 : IsErr eM) (i3 : IsErr eR) (i4 : IsErr eS) : ∀ (N : Nat) (x : V), x.size ≤ N → ∀ (B : Nat) (w : World) (u : Array Value) (deep left : Nat), VIn (fun b => b ≠ B) w x u → deep ≤ 41 → x.size ≤ 1099511627776 → left ≤ 1099511627776 →
    w.heap[B]? = some (.cells #[.int .i64 left] 3) → Errs w eD eM eR eS → 7 ≤ B →
    Calls Tryd.prog 115 #[.agg u, .int .i64 deep, .pointer (some ⟨B, 0, none⟩)] w (VwPost eD eM eR eS B w (x.vw deep left)) := by
  have HI4 := hid (fun n (hn : n ≠ 0) => ev_iface i1 i2 i3 i4 hn)
  clear i1 i2 i3 i4
  intro N
  induction N with
  | zero =>
    intro x h
    rw [V.size_eq] at h
    omega
  | succ N ih =>
    intro x hN B w u deep left h hd hM hz hB hE hB4
    have hs := V.size_eq x
    rw [V.vw_eq]
    have hown := fun (w' : World) (hv : VIn (fun b => b ≠ B) w' x u) (he : Errs w' eD eM eR eS) => vown_any x _ w' u hv (by omega) eD eM eR eS he
    have hvx := h
    obtain ⟨v, rfl, a, cap, us, rfl, hc, hm, hn, hb, hi⟩ := h.open
    have hlm : x.l.length ≤ 9223372036854775807 := Nat.le_trans hc hm
    have hsm : x.s.size ≤ 1099511627776 := by omega
    generalize x.k = kk at *
    generalize x.n = nn at *
    generalize x.s = ss at *
    generalize x.l = l at *
    have hBlt : B < w.heap.size := (Array.getElem?_eq_some_iff.1 hB).1
    have hF1 : Fr (fun b => b = B) w (w.alloc (.cells #[.int .i64 kk, .int .i64 nn, .string ss, .slice a l.length cap] 34)) := (Fr.refl _ _).alloc _
    have hB1 := ((Fr.refl (fun _ => False) w).alloc (.cells #[.int .i64 kk, .int .i64 nn, .string ss, .slice a l.length cap] 34)).heap hB not_false
    have hbx1 : (w.alloc (.cells #[.int .i64 kk, .int .i64 nn, .string ss, .slice a l.length cap] 34)).heap[w.heap.size]? = some (.cells #[.int .i64 kk, .int .i64 nn, .string ss, .slice a l.length cap] 34) := heap_alloc_new w _
    have hE1 := hE.frame ((Fr.refl (fun _ => False) w).alloc (.cells #[.int .i64 kk, .int .i64 nn, .string ss, .slice a l.length cap] 34)) (fun _ _ => id)
    have g0 := hE1.d
    have g1 := hE1.m
    have dB : (w.alloc (.cells #[.int .i64 kk, .int .i64 nn, .string ss, .slice a l.length cap] 34)).cell? ⟨B, 0, none⟩ = some (.int .i64 left) := by rw [cell_of_row _ _ 0 _ _ _ hB1]; rfl
    have fB : (w.alloc (.cells #[.int .i64 kk, .int .i64 nn, .string ss, .slice a l.length cap] 34)).frozen? ⟨B, 0, none⟩ = false := frozen_of_row _ _ 0 _ _ hB1
    obtain ⟨m, hmm⟩ : ∃ m, m = strOf kk ss := ⟨_, rfl⟩
    obtain ⟨cc, hcc⟩ : ∃ cc, cc = ownCode kk nn ss l.isEmpty := ⟨_, rfl⟩
    rw [← hmm, ← hcc]
    rw [← hcc] at hown
    have hmle : m ≤ ss.size := by rw [hmm]; unfold strOf; split <;> omega
    obtain ⟨r, hr⟩ : ∃ r, r = if 40 < deep then (112, left) else if left ≤ m then (104, left) else if cc = 0 then vwL l (deep + 1) (left - (1 + m)) else (cc, left - (1 + m)) := ⟨_, rfl⟩
    rw [← hr]
    have HB := hid hb; have HI := hid hi; have HS := hid hs; have HM := hid hM; have HN := hid hN; have HR := hid hr; have HV := hid hvx; have HO := hid hown; have HE := hid hE; have HF1 := hid hF1; have HB1 := hid hB1; have HBX := hid hbx1; have HIH := hid ih; have HMM := hid hmm
    clear hb hi hs hM hN h hn hr hvx hown hE hF1 hB hB1 hbx1 hE1 hcc ih hmm
    by_cases h1 : 40 < deep
    · go_enter Tryd.func115, Tryd.ntmps115
      go_wp2
      go_ret
      rw [HR.out, if_pos h1]
      exact ⟨rfl, HF1.out, HB1.out⟩
    have hr := HR.out
    rw [if_neg h1] at hr
    have HR' := hid hr
    have H1 := hid h1
    clear HR hr g0
    go_enter Tryd.func115, Tryd.ntmps115
    go_upto_if 17 with fail
    generalize hW1 : w.alloc (.cells #[.int .i64 kk, .int .i64 nn, .string ss, .slice a l.length cap] 34) = W1 at HF1 HB1 HBX g1 dB fB ⊢
    go_cut [7] from 17 to 20 (fun c wx => c = .int .i64 m ∧ wx = W1)
    case first =>
      have d2 : W1.cell? ⟨w.heap.size, 2, none⟩ = some (.string ss) := by rw [cell_of_row _ _ 2 _ _ _ HBX.out]; rfl
      by_cases k2 : kk = 2
      · subst k2
        go_wp2_with fail
        go_meet
        exact ⟨by rw [HMM.out]; rfl, rfl⟩
      · have q2 : (kk == 2) = false := by simpa using k2
        go_wp2_with fail
        go_meet
        exact ⟨by rw [HMM.out, strOf, if_neg k2]; rfl, rfl⟩
    case rest =>
    obtain ⟨rfl, rfl⟩ := hcut
    by_cases hlm2 : (left : Int) ≤ m
    · have hr := HR'.out
      rw [if_pos (by omega)] at hr
      subst hr
      go_wp2
      go_ret
      exact ⟨rfl, HF1.out, HB1.out⟩
    have hr := HR'.out
    rw [if_neg (by omega)] at hr
    obtain ⟨z, hz1, hz2⟩ : ∃ z : Nat, (left : Int) - (1 + m) = z ∧ z = left - (1 + m) := ⟨left - (1 + m), by omega, rfl⟩
    rw [← hz2] at hr
    have HR := hid hr; have HZ := hid hz1; have HZL := hid (show z ≤ left by omega)
    clear HR' hr hz1 hz2
    go_upto_region 9 with fail
    rw [HZ.out]
    have hF2 : Fr (fun b => b = B) w (wc.setCell ⟨B, 0, none⟩ (.int .i64 z)) := HF1.out.setCell (p := ⟨B, 0, none⟩) (.inl rfl) _
    have hW2 : Fr (fun b => b = B) wc (wc.setCell ⟨B, 0, none⟩ (.int .i64 z)) := (Fr.refl (fun b => b = B) wc).setCell (p := ⟨B, 0, none⟩) (.inl rfl) _
    have hB2 := setCell_row 0 (.int .i64 z) HB1.out
    have hbx2 := hW2.heap HBX.out (by omega)
    simp only [List.setIfInBounds_toArray, List.set_cons_zero] at hB2
    generalize wc.setCell ⟨B, 0, none⟩ (.int .i64 z) = W2 at *
    have hV2 := HV.out.frame hF2 (fun _ h => h)
    have hE2 := HE.out.frame hF2 (fun k hk e => by omega)
    have hO2 := HO.out W2 hV2 hE2
    have d0 : W2.cell? ⟨w.heap.size, 0, none⟩ = some (.int .i64 kk) := by rw [cell_of_row _ _ 0 _ _ _ hbx2]; rfl
    have d1 : W2.cell? ⟨w.heap.size, 1, none⟩ = some (.int .i64 nn) := by rw [cell_of_row _ _ 1 _ _ _ hbx2]; rfl
    have d2 : W2.cell? ⟨w.heap.size, 2, none⟩ = some (.string ss) := by rw [cell_of_row _ _ 2 _ _ _ hbx2]; rfl
    have d3 : W2.cell? ⟨w.heap.size, 3, none⟩ = some (.slice a l.length cap) := by rw [cell_of_row _ _ 3 _ _ _ hbx2]; rfl
    have HF2 := hid hF2; have HB2 := hid hB2; have HX2 := hid hbx2; have HO2 := hid hO2
    clear hF2 hW2 hB2 hbx2 hV2 hE2 hO2 HF1 HB1 HBX dB fB g1 HO
    go_wp2_with fail
    refine HO2.out.mono ?_
    rintro e W3 ⟨rfl, hf3⟩
    have hF3 := HF2.out.trans hf3 (fun _ _ h => h) (fun _ _ h => h.elim)
    have hB3 := hf3.heap HB2.out not_false
    have hX3 := hf3.heap HX2.out not_false
    have d3 : W3.cell? ⟨w.heap.size, 3, none⟩ = some (.slice a l.length cap) := by rw [cell_of_row _ _ 3 _ _ _ hX3]; rfl
    have HF3 := hid hF3; have HB3 := hid hB3
    clear hF3 hB3 hX3 hf3 HF2 HB2 HX2 HO2 d0 d1 d2
    by_cases hc0 : cc = 0
    case neg =>
      have hr := HR.out
      rw [if_neg hc0] at hr
      subst hr
      have he := HI4.out cc hc0
      obtain ⟨t, v, he⟩ := he
      rw [he]
      go_wp2
      go_ret
      exact ⟨congrArg Ending.returned he.symm, HF3.out, HB3.out⟩
    have hr := HR.out
    rw [if_pos hc0] at hr
    have HR' := hid hr
    clear HR hr
    subst hc0
    rw [show ev eD eM eR eS 0 = .nilIface from rfl]
    go_wp2_with fail
    go_loopw [42] (fun i wr => ∃ k zk : Nat, k ≤ l.length ∧ i = .int .i64 k ∧ Fr (fun b => b = B) W3 wr ∧ wr.heap[B]? = some (.cells #[.int .i64 zk] 3) ∧ zk ≤ z ∧ vwL l (deep + 1) z = vwL (l.drop k) (deep + 1) zk) (fun i _ => l.length - (intOf i).toNat)
    case atStart => exact ⟨0, z, Nat.zero_le _, rfl, Fr.refl _ _, HB3.out, Nat.le_refl _, rfl⟩
    case round =>
      obtain ⟨k, zk, hk, rfl, hf, hzk, hle, heq⟩ := hrel
      by_cases hlt : k < l.length
      · obtain ⟨b, o, y, a', c', rfl, hbB, hy, hv, e0, e1, e2, e3⟩ := VL.elem HB.out HI.out k hlt
        have hf0 := HF3.out.trans' hf
        replace e0 := hf0.cell e0 hbB
        replace e1 := hf0.cell e1 hbB
        replace e2 := hf0.cell e2 hbB
        replace e3 := hf0.cell e3 hbB
        have hA : ∀ o : Obj, Fr (fun _ => False) wr (wr.alloc o) := fun o => (Fr.refl _ _).alloc _
        have hv2 := fun o => (hv.frame hf0 (fun _ h => h)).frame (hA o) (fun _ _ => id)
        have hE2 := fun o => (HE.out.frame hf0 (fun k hk e => by omega)).frame (hA o) (fun _ _ => id)
        have hzk2 := fun o => (hA o).heap hzk not_false
        have t2 := sizeL_mem hy
        have hy1 : y.size ≤ N := by have := HS.out; have := HN.out; omega
        have hod := vwL_drop l k (deep + 1) zk y hy
        have hole := y.vw_le (deep + 1) zk
        have hc := fun o => HIH.out y hy1 B (wr.alloc o) _ (deep + 1) zk (hv2 o) (by have := H1.out; omega) (by have := HM.out; have := HS.out; omega) (by have := HZL.out; omega) (hzk2 o) (hE2 o) hB4
        rw [hod] at heq
        have HE9 := hid heq; have HFr := hid hf; have HC := hid hc; have HO9 := hid hole
        clear hv t2 hf hf0 hv2 hE2 hzk2 hc hy1 hod heq hole hy hzk
        generalize y.vw (deep + 1) zk = ry at *
        go_wp2_with fail
        refine (HC.out _).mono ?_
        rintro e w2 ⟨rfl, hf2, hb2⟩
        have HF2 := hid (HFr.out.trans' (((Fr.refl _ wr).alloc _).trans' hf2)); have HB2 := hid hb2
        clear hf2 hb2
        by_cases hry : ry.1 = 0
        · have hev : ev eD eM eR eS ry.1 = .nilIface := by rw [hry]; rfl
          rw [hev]
          go_wp2
          go_roundw
          case rel => exact ⟨k + 1, ry.2, by omega, by go_num, HF2.out, HB2.out, by have := HO9.out; omega, by rw [HE9.out, if_pos hry]⟩
          case measure => simp [intOf]; omega
        · obtain ⟨t, v, he⟩ := HI4.out ry.1 hry
          rw [he]
          go_wp2
          go_ret
          have hrr := HR'.out
          rw [HE9.out, if_neg hry] at hrr
          rw [hrr]
          exact ⟨congrArg Ending.returned he.symm, HF3.out.trans' HF2.out, HB2.out⟩
      · go_wp2
        go_ret
        have hrr := HR'.out
        rw [heq, List.drop_of_length_le (by omega), vwL] at hrr
        rw [hrr]
        exact ⟨rfl, HF3.out.trans' hf, hzk⟩
end
section
open Go.RowKit

def V.valid (x : V) : Int := (x.odd 1 0).1
def V.right (x : V) : Bool := x.valid == 0

end
section
open Go.RowKit

theorem own_shape {k n : Int} (s : ByteArray) (e : Bool) (h : oddRange k n = false) : oddShape k n s e = (ownShape k n s e || !printed s) := by
  have hk : k = 0 ∨ k = 1 ∨ k = 2 ∨ k = 3 ∨ k = 4 := by
    simp [oddRange] at h
    omega
  unfold oddShape ownShape
  rcases hk with rfl | rfl | rfl | rfl | rfl <;> cases hn : (n != 0) <;> cases hs : (s.size != 0) <;> cases e <;> cases printed s <;> rfl
mutual
theorem V.vw_odd : ∀ (x : V) (deep sz left : Nat), sz + left = 4096 → (x.odd deep sz).1 = (x.vw deep left).1 ∧ ((x.vw deep left).1 = 0 → (x.odd deep sz).2 + (x.vw deep left).2 = 4096)
  | .mk k n s l, deep, sz, left, h => by
    have h2 := vwL_odd l (deep + 1) (oddSize k s sz) (left - (1 + strOf k s))
    have hsz : oddSize k s sz = sz + 1 + strOf k s := rfl
    simp only [V.odd, V.vw]
    by_cases h1 : 40 < deep
    · simp [h1]
    simp only [if_neg h1]
    by_cases h3 : left ≤ strOf k s
    · simp [h3, show 4096 < oddSize k s sz by omega]
    simp only [if_neg h3, if_neg (show ¬ 4096 < oddSize k s sz by omega)]
    cases er : oddRange k n
    · have eo := own_shape s l.isEmpty er
      rw [eo]
      simp only [ownCode, er, Bool.false_eq_true, if_false]
      cases ownShape k n s l.isEmpty <;> cases printed s <;> simp
      exact h2 (by omega)
    · simp [ownCode, er]
theorem vwL_odd : ∀ (l : List V) (deep sz left : Nat), sz + left = 4096 → (oddL l deep sz).1 = (vwL l deep left).1 ∧ ((vwL l deep left).1 = 0 → (oddL l deep sz).2 + (vwL l deep left).2 = 4096)
  | [], deep, sz, left, h => by simp [oddL, vwL, h]
  | x :: r, deep, sz, left, h => by
    obtain ⟨h1, h2⟩ := V.vw_odd x deep sz left h
    simp only [oddL, vwL]
    by_cases h0 : (x.vw deep left).1 = 0
    · rw [if_pos (h1.trans h0), if_pos h0]
      exact vwL_odd r deep _ _ (h2 h0)
    · rw [if_neg (fun e => h0 (h1.symm.trans e)), if_neg h0]
      exact ⟨h1, fun e => absurd e h0⟩
end
theorem V.vcode (x : V) : (x.vw 1 4096).1 = x.valid := (V.vw_odd x 1 0 4096 rfl).1.symm

set_option maxHeartbeats 800000 in
theorem vvalid_any (eD eM eR eS : Value) (i1 : IsErr eD) (i2 : IsErr eM) (i3 : IsErr eR) (i4 : IsErr eS) (x : V) (hM : x.size ≤ 1099511627776) (D : Nat → Prop) (w : World) (u : Array Value) (h : VIn D w x u) (hE : Errs w eD eM eR eS) (h4 : 7 ≤ w.heap.size) :
    Calls Tryd.prog 100 #[.agg u] w fun e w' => e = .returned (ev eD eM eR eS x.valid) ∧ Fr (fun _ => False) w w' := by
  obtain ⟨v, rfl, hl⟩ := h.open
  obtain ⟨a, cap, us, rfl, -⟩ := hl
  have hF : ∀ o1 o2, Fr (fun _ => False) w ((w.alloc o1).alloc o2) := fun o1 o2 => ((Fr.refl _ _).alloc _).alloc _
  have hv : ∀ o1 o2, VIn (fun b => b ≠ w.heap.size + 1) ((w.alloc o1).alloc o2) x #[.int .i64 x.k, .int .i64 x.n, .string x.s, .slice a x.l.length cap] := fun o1 o2 => (h.mono fun k hk _ => by omega).frame (hF o1 o2) (fun _ _ => not_false)
  have hb : ∀ o1 : Obj, ((w.alloc o1).alloc (.cells #[.int .i64 4096] 3)).heap[w.heap.size + 1]? = some (.cells #[.int .i64 (4096 : Nat)] 3) := fun o1 => by
    have := heap_alloc_new (w.alloc o1) (.cells #[.int .i64 4096] 3)
    simpa using this
  have hodd := fun o1 => vw_any eD eM eR eS i1 i2 i3 i4 x.size x (Nat.le_refl _) (w.heap.size + 1) ((w.alloc o1).alloc (.cells #[.int .i64 4096] 3)) _ 1 4096 (hv o1 _) (by omega) hM (by omega) (hb o1) (hE.frame (hF _ _) (fun _ _ => id)) (by omega)
  have HC := hid hodd; have HF := hid hF; have HX := hid x.vcode
  clear hodd hF hv hb h hM hE i1 i2 i3 i4
  generalize x.valid = rv at *
  generalize x.vw 1 4096 = r at *
  generalize x.k = kk at *
  generalize x.n = nn at *
  generalize x.s = ss at *
  generalize x.l.length = ll at *
  have hd : ∀ o2 : Obj, ((w.alloc (.cells #[.int .i64 kk, .int .i64 nn, .string ss, .slice a ll cap] 34)).alloc o2).heap[w.heap.size]? = some (.cells #[.int .i64 kk, .int .i64 nn, .string ss, .slice a ll cap] 34) := fun o2 => ((Fr.refl (fun _ => False) _).alloc _).heap (heap_alloc_new w _) not_false
  have HD := hid hd
  clear hd
  go_enter Tryd.func100, Tryd.ntmps100
  go_wp2_with fail
  refine (HC.out _).mono ?_
  rintro e w2 ⟨rfl, hf2, -⟩
  have HF2 := hid ((HF.out _ _).trans hf2 (fun _ _ => id) (fun k hk e => by omega))
  clear hf2
  go_wp2
  go_ret
  exact ⟨by rw [← HX.out]; rfl, HF2.out⟩
end
section
open Go.RowKit

/-- Has a node as many as it has to have? -/
def pCounts (op : Int) (n : Nat) : Bool :=
  if op = 1 ∨ op = 2 ∨ op = 45 ∨ op = 46 then decide (n = 0) else if op = 3 ∨ op = 4 ∨ op = 26 ∨ op = 40 then decide (n = 1) else if (5 ≤ op ∧ op ≤ 18) ∨ op = 20 ∨ op = 22 then decide (n = 2)
  else if op = 19 ∨ op = 21 ∨ op = 43 then decide (n = 3) else if op = 23 ∨ op = 28 ∨ op = 41 ∨ op = 49 then decide (2 ≤ n) else if op = 24 ∨ op = 25 ∨ op = 52 then true
  else if op = 27 ∨ op = 42 ∨ op = 44 ∨ op = 48 ∨ op = 50 ∨ op = 51 then decide (n = 2) else if op = 29 then decide (n = 2) || decide (n = 3) else if op = 47 then decide (n ≤ 1) else false
/-- What has to stand in a node. -/
def pRoles (op : Int) (n : Nat) : List Int :=
  if op = 1 ∨ op = 2 ∨ op = 45 ∨ op = 46 then [] else if op = 3 ∨ op = 4 ∨ op = 26 ∨ op = 40 then List.replicate 1 0 else if (5 ≤ op ∧ op ≤ 18) ∨ op = 20 ∨ op = 22 then List.replicate 2 0
  else if op = 19 ∨ op = 21 then List.replicate 3 0 else if op = 43 then [0, 0, 6] else if op = 23 then List.replicate 2 0 ++ List.replicate (n - 2) 1 else if op = 28 then (List.replicate (n - 1) 3).set (n - 2) 4 ++ [0]
  else if op = 41 then ifL n else if op = 49 then 6 :: List.replicate (n - 1) 8 else if op = 24 ∨ op = 25 then List.replicate n 1 else if op = 52 then List.replicate n 7
  else if op = 27 then [2, 0] else if op = 42 ∨ op = 44 ∨ op = 48 then [0, 6] else if op = 50 then [5, 6] else if op = 51 then [6, 6] else if op = 29 then [0, 5, 0].take n else if op = 47 then List.replicate n 0 else []
set_option maxRecDepth 100000 in
set_option maxHeartbeats 3200000 in
theorem roles_any (op ln vk vn : Int) (s vs : ByteArray) (va : Value) (la : Option Addr) (n lc : Nat) (hn : n ≤ 1048576) (w : World) : Calls Tryd.prog 85 #[.agg #[.int .i64 op, .int .i64 ln, .string s, .int .i64 vk, .int .i64 vn, .string vs, va, .slice la n lc]] w (RolesPostC w (pRoles op n) (pCounts op n)) := by
  have hop : op < 1 ∨ 29 < op ∧ op < 40 ∨ 52 < op ∨ op = 1 ∨ op = 2 ∨ op = 3 ∨ op = 4 ∨ op = 5 ∨ op = 6 ∨ op = 7 ∨ op = 8 ∨ op = 9 ∨ op = 10 ∨ op = 11 ∨ op = 12 ∨ op = 13 ∨ op = 14 ∨ op = 15 ∨ op = 16 ∨ op = 17 ∨ op = 18 ∨ op = 19 ∨ op = 20 ∨ op = 21 ∨ op = 22 ∨ op = 23 ∨ op = 24 ∨ op = 25 ∨ op = 26 ∨ op = 27 ∨ op = 28 ∨ op = 29 ∨ op = 40 ∨ op = 41 ∨ op = 42 ∨ op = 43 ∨ op = 44 ∨ op = 45 ∨ op = 46 ∨ op = 47 ∨ op = 48 ∨ op = 49 ∨ op = 50 ∨ op = 51 ∨ op = 52 := by omega
  rcases hop with h | h | h | rfl | rfl | rfl | rfl | rfl | rfl | rfl | rfl | rfl | rfl | rfl | rfl | rfl | rfl | rfl | rfl | rfl | rfl | rfl | rfl | rfl | rfl | rfl | rfl | rfl | rfl | rfl | rfl | rfl | rfl | rfl | rfl | rfl | rfl | rfl | rfl | rfl | rfl | rfl | rfl | rfl | rfl
  · have hc : pCounts op n = false := by unfold pCounts; repeat rw [if_neg (by omega)]
    rw [hc]
    exact (rolesD_any op ln vk vn s vs va la n lc (by omega) hn w).mono fun e w' h => by obtain ⟨v, h1, h2, h3⟩ := h; exact ⟨v, h1, h2, fun h => by cases h⟩
  · have hc : pCounts op n = false := by unfold pCounts; repeat rw [if_neg (by omega)]
    rw [hc]
    exact (rolesD_any op ln vk vn s vs va la n lc (by omega) hn w).mono fun e w' h => by obtain ⟨v, h1, h2, h3⟩ := h; exact ⟨v, h1, h2, fun h => by cases h⟩
  · have hc : pCounts op n = false := by unfold pCounts; repeat rw [if_neg (by omega)]
    rw [hc]
    exact (rolesD_any op ln vk vn s vs va la n lc (by omega) hn w).mono fun e w' h => by obtain ⟨v, h1, h2, h3⟩ := h; exact ⟨v, h1, h2, fun h => by cases h⟩
  · exact (roles0_any 1 ln vk vn s vs va la n lc (by decide) hn w).mono fun e w' h => h.weak
  · exact (roles0_any 2 ln vk vn s vs va la n lc (by decide) hn w).mono fun e w' h => h.weak
  · exact (roles1_any 3 ln vk vn s vs va la n lc (by decide) hn w).mono fun e w' h => h.weak
  · exact (roles1_any 4 ln vk vn s vs va la n lc (by decide) hn w).mono fun e w' h => h.weak
  · exact (roles2_any 5 ln vk vn s vs va la n lc (by decide) hn w).mono fun e w' h => h.weak
  · exact (roles2_any 6 ln vk vn s vs va la n lc (by decide) hn w).mono fun e w' h => h.weak
  · exact (roles2_any 7 ln vk vn s vs va la n lc (by decide) hn w).mono fun e w' h => h.weak
  · exact (roles2_any 8 ln vk vn s vs va la n lc (by decide) hn w).mono fun e w' h => h.weak
  · exact (roles2_any 9 ln vk vn s vs va la n lc (by decide) hn w).mono fun e w' h => h.weak
  · exact (roles2_any 10 ln vk vn s vs va la n lc (by decide) hn w).mono fun e w' h => h.weak
  · exact (roles2_any 11 ln vk vn s vs va la n lc (by decide) hn w).mono fun e w' h => h.weak
  · exact (roles2_any 12 ln vk vn s vs va la n lc (by decide) hn w).mono fun e w' h => h.weak
  · exact (roles2_any 13 ln vk vn s vs va la n lc (by decide) hn w).mono fun e w' h => h.weak
  · exact (roles2_any 14 ln vk vn s vs va la n lc (by decide) hn w).mono fun e w' h => h.weak
  · exact (roles2_any 15 ln vk vn s vs va la n lc (by decide) hn w).mono fun e w' h => h.weak
  · exact (roles2_any 16 ln vk vn s vs va la n lc (by decide) hn w).mono fun e w' h => h.weak
  · exact (roles2_any 17 ln vk vn s vs va la n lc (by decide) hn w).mono fun e w' h => h.weak
  · exact (roles2_any 18 ln vk vn s vs va la n lc (by decide) hn w).mono fun e w' h => h.weak
  · exact (roles3_any 19 ln vk vn s vs va la n lc (by decide) hn w).mono fun e w' h => h.weak
  · exact (roles2_any 20 ln vk vn s vs va la n lc (by decide) hn w).mono fun e w' h => h.weak
  · exact (roles3_any 21 ln vk vn s vs va la n lc (by decide) hn w).mono fun e w' h => h.weak
  · exact (roles2_any 22 ln vk vn s vs va la n lc (by decide) hn w).mono fun e w' h => h.weak
  · exact (roles23_any 23 ln vk vn s vs va la n lc (by decide) hn w)
  · exact (roles24_any 24 ln vk vn s vs va la n lc (by decide) hn w)
  · exact (roles24_any 25 ln vk vn s vs va la n lc (by decide) hn w)
  · exact (roles1_any 26 ln vk vn s vs va la n lc (by decide) hn w).mono fun e w' h => h.weak
  · exact (roles27_any 27 ln vk vn s vs va la n lc (by decide) hn w).mono fun e w' h => h.weak
  · exact (roles28_any 28 ln vk vn s vs va la n lc (by decide) hn w)
  · exact (roles29_any 29 ln vk vn s vs va la n lc (by decide) hn w)
  · exact (roles1_any 40 ln vk vn s vs va la n lc (by decide) hn w).mono fun e w' h => h.weak
  · exact (roles41_any 41 ln vk vn s vs va la n lc (by decide) hn w)
  · exact (roles42_any 42 ln vk vn s vs va la n lc (by decide) hn w).mono fun e w' h => h.weak
  · exact (roles43_any 43 ln vk vn s vs va la n lc (by decide) hn w).mono fun e w' h => h.weak
  · exact (roles42_any 44 ln vk vn s vs va la n lc (by decide) hn w).mono fun e w' h => h.weak
  · exact (roles0_any 45 ln vk vn s vs va la n lc (by decide) hn w).mono fun e w' h => h.weak
  · exact (roles0_any 46 ln vk vn s vs va la n lc (by decide) hn w).mono fun e w' h => h.weak
  · exact (roles47_any 47 ln vk vn s vs va la n lc (by decide) hn w)
  · exact (roles42_any 48 ln vk vn s vs va la n lc (by decide) hn w).mono fun e w' h => h.weak
  · exact (roles49_any 49 ln vk vn s vs va la n lc (by decide) hn w)
  · exact (roles50_any 50 ln vk vn s vs va la n lc (by decide) hn w).mono fun e w' h => h.weak
  · exact (roles51_any 51 ln vk vn s vs va la n lc (by decide) hn w).mono fun e w' h => h.weak
  · exact (roles52_any 52 ln vk vn s vs va la n lc (by decide) hn w)

def fair1 (st loop : Bool) (op : Int) : Bool := st && (loop || (op != 45 && op != 46))
/-- May a node have this value? -/
def litOk (v : V) : Bool := v.k != 4 && decide (v.valid = 0) && (v.k != 0 || v.n != -9223372036854775808)
def noV (v : V) : Bool := v.k == 0 && v.n == 0 && v.s.toList.isEmpty && decide (v.l.length = 0)
def fairV (op : Int) (v : V) : Bool := if op = 1 then litOk v else noV v
def ownBad (f full is e : Bool) : Bool := !f || !full || (!is && !e)
def ownBad2 (is nm em e : Bool) : Bool := is && !nm && !(em && e)
/-- What is amiss with what a node itself has: a number of api's errors; 0: nothing. -/
def pOwn (x : Nd) (role : Int) (loop : Bool) : Nat :=
  if ownBad (fair1 (pStands x.op role) loop x.op && fairV x.op x.v) (pCounts x.op x.l.length) (pNamed x.op).1 x.s.toList.isEmpty then 103 else if ownBad2 (pNamed x.op).1 (pName x.s) (pNamed x.op).2 x.s.toList.isEmpty then 106 else 0
theorem ev_nil {pa : Nat → Addr} {n : Int} : (n = 0 → ev (errV pa 112) (errV pa 104) (errV pa 105) (errV pa 103) n = .nilIface) ∧ (n ≠ 0 → ∃ a, ev (errV pa 112) (errV pa 104) (errV pa 105) (errV pa 103) n = .iface 175 (.pointer (some a))) := by
  constructor
  · rintro rfl; rfl
  · intro h
    unfold ev
    rw [if_neg h]
    split
    · exact ⟨_, rfl⟩
    split
    · exact ⟨_, rfl⟩
    split
    · exact ⟨_, rfl⟩
    exact ⟨_, rfl⟩
theorem Sent17.errs {w : World} {pa : Nat → Addr} (h : Sent17 w pa) : Errs w (errV pa 112) (errV pa 104) (errV pa 105) (errV pa 103) :=
  ⟨h.s 11 (by decide), h.s 3 (by decide), h.s 4 (by decide), h.s 2 (by decide)⟩

end
section
open Go.RowKit

mutual
/-- How much a node holds of all. -/
def Nd.sz : Nd → Nat
  | .mk _ _ s v l => 1 + s.size + v.size + szL l
def szL : List Nd → Nat
  | [] => 0
  | x :: r => Nd.sz x + szL r
end
theorem Nd.sz_eq (x : Nd) : x.sz = 1 + x.s.size + x.v.size + szL x.l := by cases x; simp [Nd.sz, Nd.l, Nd.s, Nd.v]
theorem szL_mem : ∀ {l : List Nd} {k : Nat} {x : Nd}, l[k]? = some x → x.sz ≤ szL l
  | [], k, x, h => by simp at h
  | y :: r, 0, x, h => by
    simp at h
    subst h
    simp [szL]
  | y :: r, k + 1, x, h => by
    have := szL_mem (l := r) (k := k) (by simpa using h)
    simp only [szL]
    omega
mutual
theorem Nd.cnt_sz : ∀ (x : Nd), x.cnt ≤ x.sz
  | .mk _ _ s v l => by
    have := cntL_szL l
    simp only [Nd.sz, Nd.cnt]
    omega
theorem cntL_szL : ∀ (l : List Nd), cntL l ≤ szL l
  | [] => by simp [cntL]
  | x :: r => by
    have h1 := Nd.cnt_sz x
    have h2 := cntL_szL r
    simp only [szL, cntL]
    omega
end

/-- The role of a child: its own, or what its father's place makes of it. -/
def rW (role op : Int) (i : Nat) (r : Int) : Int := if role = 5 then 0 else if role = 2 ∧ op = 20 ∧ i = 0 then 2 else if role = 4 ∧ op = 26 then 3 else r
def inW (op : Int) (loop : Bool) (r : Int) : Bool := (loop && op != 48) || (pLoops op && r == 6)
mutual
/-- What is first amiss with a node, and what it has: the error's number (0: nothing), and the line. -/
def pWalk : Nd → Int → Bool → Nat × Int
  | .mk op ln s v l, role, loop => if pOwn (.mk op ln s v l) role loop = 0 then pWalkL op role loop (pRoles op l.length) 0 l else (pOwn (.mk op ln s v l) role loop, ln)
def pWalkL (op role : Int) (loop : Bool) (R : List Int) : Nat → List Nd → Nat × Int
  | _, [] => (0, 0)
  | i, y :: r => if (pWalk y (rW role op i (R.getD i 0)) (inW op loop (rW role op i (R.getD i 0)))).1 = 0 then pWalkL op role loop R (i + 1) r else pWalk y (rW role op i (R.getD i 0)) (inW op loop (rW role op i (R.getD i 0)))
end
theorem pWalk_eq (x : Nd) (role : Int) (loop : Bool) : pWalk x role loop = if pOwn x role loop = 0 then pWalkL x.op role loop (pRoles x.op x.l.length) 0 x.l else (pOwn x role loop, x.ln) := by
  obtain ⟨op, ln, s, v, l⟩ := x
  rw [pWalk]
  rfl
theorem pWalkL_nil (op role : Int) (loop : Bool) (R : List Int) (i : Nat) : pWalkL op role loop R i [] = (0, 0) := by rw [pWalkL]
theorem pWalkL_cons (op role : Int) (loop : Bool) (R : List Int) (i : Nat) (y : Nd) (r : List Nd) : pWalkL op role loop R i (y :: r) = if (pWalk y (rW role op i (R.getD i 0)) (inW op loop (rW role op i (R.getD i 0)))).1 = 0 then pWalkL op role loop R (i + 1) r else pWalk y (rW role op i (R.getD i 0)) (inW op loop (rW role op i (R.getD i 0))) := by rw [pWalkL]
theorem drop_at {l : List Nd} {k : Nat} {y : Nd} (h : l[k]? = some y) : l.drop k = y :: l.drop (k + 1) := by
  obtain ⟨hk, rfl⟩ := List.getElem?_eq_some_iff.1 h
  exact (List.drop_eq_getElem_cons hk)
theorem pWalkL_step {op role : Int} {loop : Bool} {R : List Int} {l : List Nd} {k : Nat} {y : Nd} (h : l[k]? = some y) : pWalkL op role loop R k (l.drop k) = if (pWalk y (rW role op k (R.getD k 0)) (inW op loop (rW role op k (R.getD k 0)))).1 = 0 then pWalkL op role loop R (k + 1) (l.drop (k + 1)) else pWalk y (rW role op k (R.getD k 0)) (inW op loop (rW role op k (R.getD k 0))) := by
  rw [drop_at h, pWalkL_cons]

/-- An error with its place, or none. -/
def AtV (pa : Nat → Addr) (w : World) (q : Nat × Int) (v : Value) : Prop :=
  (q.1 = 0 ∧ v = .nilIface) ∨ (q.1 ≠ 0 ∧ ∃ b, v = .iface 121 (.pointer (some ⟨b, 0, none⟩)) ∧ w.heap[b]? = some (.cells #[.int .i64 q.2, errV pa q.1] 124))
theorem AtV.frame {pa : Nat → Addr} {w w' : World} {q : Nat × Int} {v : Value} (h : AtV pa w q v) (hf : Fr (fun _ => False) w w') : AtV pa w' q v := by
  rcases h with h | ⟨h, b, e, hb⟩
  · exact .inl h
  · exact .inr ⟨h, b, e, hf.heap hb not_false⟩

theorem ifL_length (n : Nat) : (ifL n).length = n := by
  unfold ifL
  split <;> simp
theorem pRoles_len (op : Int) (n : Nat) (h : pCounts op n = true) : (pRoles op n).length = n := by
  unfold pCounts at h
  unfold pRoles
  have hop : op = 1 ∨ op = 2 ∨ op = 45 ∨ op = 46 ∨ op = 3 ∨ op = 4 ∨ op = 26 ∨ op = 40 ∨ (5 ≤ op ∧ op ≤ 18) ∨ op = 20 ∨ op = 22 ∨ op = 19 ∨ op = 21 ∨ op = 43 ∨ op = 23 ∨ op = 28 ∨ op = 41 ∨ op = 49 ∨ op = 24 ∨ op = 25 ∨ op = 52 ∨ op = 27 ∨ op = 42 ∨ op = 44 ∨ op = 48 ∨ op = 50 ∨ op = 51 ∨ op = 29 ∨ op = 47 ∨ (¬ (op = 1 ∨ op = 2 ∨ op = 45 ∨ op = 46) ∧ ¬ (op = 3 ∨ op = 4 ∨ op = 26 ∨ op = 40) ∧ ¬ ((5 ≤ op ∧ op ≤ 18) ∨ op = 20 ∨ op = 22) ∧ ¬ (op = 19 ∨ op = 21 ∨ op = 43) ∧ ¬ (op = 23 ∨ op = 28 ∨ op = 41 ∨ op = 49) ∧ ¬ (op = 24 ∨ op = 25 ∨ op = 52) ∧ ¬ (op = 27 ∨ op = 42 ∨ op = 44 ∨ op = 48 ∨ op = 50 ∨ op = 51) ∧ op ≠ 29 ∧ op ≠ 47) := by omega
  rcases hop with rfl | rfl | rfl | rfl | rfl | rfl | rfl | rfl | ⟨h1, h2⟩ | rfl | rfl | rfl | rfl | rfl | rfl | rfl | rfl | rfl | rfl | rfl | rfl | rfl | rfl | rfl | rfl | rfl | rfl | rfl | rfl | ⟨a1, a2, a3, a4, a5, a6, a7, a8, a9⟩
  case inr.inr.inr.inr.inr.inr.inr.inr.inl =>
    rw [if_neg (by omega), if_neg (by omega), if_pos (by omega)] at h
    rw [if_neg (by omega), if_neg (by omega), if_pos (by omega)]
    simp at h
    simp [h]
  case inr.inr.inr.inr.inr.inr.inr.inr.inr.inr.inr.inr.inr.inr.inr.inr.inr.inr.inr.inr.inr.inr.inr.inr.inr.inr.inr.inr.inr => rw [if_neg a1, if_neg a2, if_neg a3, if_neg a4, if_neg a5, if_neg a6, if_neg a7, if_neg a8, if_neg a9] at h; cases h
  all_goals simp [ifL_length] at h ⊢
  all_goals omega
end
section
variable {B : List UInt8}

/-- A reader goes on. -/
def GoOn (B : List UInt8) (s s' : RS) : Prop := s.at_ ≤ s'.at_ ∧ s'.at_ ≤ B.length ∧ (s'.ok = true → s.ok = true)
theorem GoOn.refl {s : RS} (h : s.at_ ≤ B.length) : GoOn B s s := ⟨Nat.le_refl _, h, id⟩
theorem GoOn.trans {a b c : RS} (h : GoOn B a b) (k : GoOn B b c) : GoOn B a c := ⟨Nat.le_trans h.1 k.1, k.2.1, fun x => h.2.2 (k.2.2 x)⟩
theorem GoOn.fail {a b : RS} (h : GoOn B a b) : GoOn B a b.fail := ⟨h.1, h.2.1, (fun x => by cases x)⟩
theorem rNum_go (k : Nat) {s : RS} (h : s.at_ ≤ B.length) : GoOn B s (rNum B k s).2 ∧ ((rNum B k s).2.ok = true → (rNum B k s).2.at_ = s.at_ + k) ∧ (rNum B k s).1 < 256 ^ k := by
  unfold rNum
  by_cases hc : s.ok = false ∨ B.length < s.at_ + k
  · rw [if_pos hc]
    exact ⟨(GoOn.refl h).fail, (fun x => by cases x), Nat.pow_pos (by omega)⟩
  · rw [if_neg hc]
    refine ⟨⟨Nat.le_add_right _ _, ?_, fun _ => ?_⟩, fun _ => rfl, ?_⟩
    · show s.at_ + k ≤ B.length
      by_cases h2 : B.length < s.at_ + k
      · exact absurd (.inr h2) hc
      · omega
    · cases hs : s.ok
      · exact absurd (.inl hs) hc
      · rfl
    · refine Nat.lt_of_lt_of_le (deN_lt _) (Nat.pow_le_pow_right (by omega) ?_)
      simp
      omega
theorem rMany_go (most : Int) {s : RS} (h : s.at_ ≤ B.length) : GoOn B s (rMany B most s).2 ∧ ((rMany B most s).2.ok = true → (rMany B most s).2.at_ = s.at_ + 4) ∧ (rMany B most s).1 < 4294967296 ∧ (0 ≤ most → ((rMany B most s).1 : Int) ≤ most) ∧ ((rMany B most s).2.ok = false → (rMany B most s).1 = 0) := by
  obtain ⟨h1, h2, h3⟩ := rNum_go (B := B) 4 h
  unfold rMany
  (try dsimp only)
  by_cases hc : (rNum B 4 s).2.ok = false ∨ (0 ≤ most ∧ most < ((rNum B 4 s).1 : Int))
  · rw [if_pos hc]
    exact ⟨h1.fail, (fun x => by cases x), (show (0 : Nat) < 4294967296 by decide), fun x => by simpa using x, fun _ => rfl⟩
  · rw [if_neg hc]
    refine ⟨h1, h2, by simpa using h3, fun x => ?_, fun x => absurd (.inl x) hc⟩
    by_cases h4 : most < ((rNum B 4 s).1 : Int)
    · exact absurd (.inr ⟨x, h4⟩) hc
    · omega
theorem rText_go (most : Int) {s : RS} (h : s.at_ ≤ B.length) : GoOn B s (rText B most s).2 ∧ ((rText B most s).2.ok = true → (rText B most s).2.at_ = s.at_ + 4 + (rText B most s).1.size) := by
  obtain ⟨h1, h2, h3, -, h5⟩ := rMany_go (B := B) most h
  unfold rText
  (try dsimp only)
  by_cases hc : (rMany B most s).2.ok = false ∨ B.length < (rMany B most s).2.at_ + (rMany B most s).1
  · rw [if_pos hc]
    exact ⟨h1.fail, (fun x => by cases x)⟩
  · rw [if_neg hc]
    have hok : (rMany B most s).2.ok = true := by
      cases hs : (rMany B most s).2.ok
      · exact absurd (.inl hs) hc
      · rfl
    have hle : (rMany B most s).2.at_ + (rMany B most s).1 ≤ B.length := by
      by_cases h2 : B.length < (rMany B most s).2.at_ + (rMany B most s).1
      · exact absurd (.inr h2) hc
      · omega
    refine ⟨⟨?_, hle, fun _ => h1.2.2 hok⟩, fun _ => ?_⟩
    · have := h1.1
      show s.at_ ≤ (rMany B most s).2.at_ + (rMany B most s).1
      omega
    · have := h2 hok
      have hsz : (⟨((B.drop (rMany B most s).2.at_).take (rMany B most s).1).toArray⟩ : ByteArray).size = (rMany B most s).1 := by
        show (((B.drop (rMany B most s).2.at_).take (rMany B most s).1).toArray).size = _
        simp
        omega
      (try dsimp only)
      rw [hsz]
      omega
/-- A loop of readings. -/
theorem rLoop_val {d : Nat} (hf : ∀ s : RS, s.at_ ≤ B.length → GoOn B s (rVal B d s).2 ∧ ((rVal B d s).2.ok = true → (rVal B d s).1.size + s.at_ ≤ (rVal B d s).2.at_)) :
    ∀ (n : Nat) (s : RS), s.at_ ≤ B.length → GoOn B s (rLoop RS.ok (rVal B d) n s).2 ∧ ((rLoop RS.ok (rVal B d) n s).2.ok = true → sizeL (rLoop RS.ok (rVal B d) n s).1 + s.at_ ≤ (rLoop RS.ok (rVal B d) n s).2.at_)
  | 0, s, h => ⟨GoOn.refl h, fun _ => by simp [rLoop, sizeL]⟩
  | n + 1, s, h => by
    rw [rLoop]
    by_cases hs : s.ok = false
    · rw [if_pos hs]
      exact ⟨GoOn.refl h, fun _ => by simp [sizeL]⟩
    · rw [if_neg hs]
      obtain ⟨h1, h2⟩ := hf s h
      obtain ⟨h3, h4⟩ := rLoop_val hf n _ h1.2.1
      refine ⟨h1.trans h3, fun hok => ?_⟩
      have := h4 hok
      have := h2 (h3.2.2 hok)
      simp only [sizeL]
      omega
theorem rVal_go : ∀ (d : Nat) (s : RS), s.at_ ≤ B.length → GoOn B s (rVal B d s).2 ∧ ((rVal B d s).2.ok = true → (rVal B d s).1.size + s.at_ ≤ (rVal B d s).2.at_)
  | 0, s, h => ⟨(GoOn.refl h).fail, (fun x => by cases x)⟩
  | d + 1, s, h => by
    obtain ⟨h1, h2, h3⟩ := rNum_go (B := B) 1 h
    rw [rVal]
    (try dsimp only)
    by_cases c1 : (rNum B 1 s).1 = 0 ∨ (rNum B 1 s).1 = 1 ∨ (rNum B 1 s).1 = 3
    · rw [if_pos c1]
      obtain ⟨k1, k2, k3⟩ := rNum_go (B := B) 8 h1.2.1
      refine ⟨h1.trans k1, fun hok => ?_⟩
      have := k2 hok
      have := h2 (k1.2.2 hok)
      have h0 : (V.mk ((rNum B 1 s).1 : Int) (sI (rNum B 8 (rNum B 1 s).2).1) ⟨#[]⟩ []).size = 1 := by rw [V.size_eq]; simp [V.s, V.l, sizeL]; rfl
      (try dsimp only)
      omega
    · rw [if_neg c1]
      by_cases c2 : (rNum B 1 s).1 = 2
      · rw [if_pos c2]
        obtain ⟨k1, k2⟩ := rText_go (B := B) 4096 h1.2.1
        refine ⟨h1.trans k1, fun hok => ?_⟩
        have := k2 hok
        have := h2 (k1.2.2 hok)
        have h0 : (V.mk 2 0 (rText B 4096 (rNum B 1 s).2).1 []).size = 1 + (rText B 4096 (rNum B 1 s).2).1.size := by rw [V.size_eq]; simp [V.s, V.l, sizeL]
        (try dsimp only)
        omega
      · rw [if_neg c2]
        by_cases c4 : (rNum B 1 s).1 = 4
        · rw [if_pos c4]
          obtain ⟨k1, k2, -⟩ := rMany_go (B := B) 4096 h1.2.1
          obtain ⟨m1, m2⟩ := rLoop_val (rVal_go d) (rMany B 4096 (rNum B 1 s).2).1 _ k1.2.1
          refine ⟨(h1.trans k1).trans m1, fun hok => ?_⟩
          have := m2 hok
          have := k2 (m1.2.2 hok)
          have := h2 (k1.2.2 (m1.2.2 hok))
          (try dsimp only)
          rw [V.size_eq]
          simp only [V.s, V.l]
          have h0 : (⟨#[]⟩ : ByteArray).size = 0 := rfl
          omega
        · rw [if_neg c4]
          exact ⟨h1.fail, (fun x => by cases x)⟩
/-- What is left sinks by as much as is read, and one. -/
def LfOn (t t' : NS) : Prop := t'.lf ≤ t.lf ∧ t.lf + t.s.at_ ≤ t'.lf + t'.s.at_ + (if t.s.ok = true ∧ t'.s.ok = false then 1 else 0)
theorem LfOn.trans {a b c : NS} (g1 : b.s.ok = true → a.s.ok = true) (g2 : c.s.ok = true → b.s.ok = true) (h : LfOn a b) (k : LfOn b c) : LfOn a c := by
  obtain ⟨h1, h2⟩ := h
  obtain ⟨k1, k2⟩ := k
  refine ⟨by omega, ?_⟩
  revert h2 k2 g1 g2
  cases a.s.ok <;> cases b.s.ok <;> cases c.s.ok <;> simp <;> omega
def NdsGo (B : List UInt8) (f : NS → List Nd × NS) : Prop := ∀ t : NS, t.s.at_ ≤ B.length → GoOn B t.s (f t).2.s ∧ LfOn t (f t).2 ∧ ((f t).2.s.ok = true → szL (f t).1 + t.s.at_ ≤ (f t).2.s.at_)
theorem rNode_go {f : NS → List Nd × NS} (hf : NdsGo B f) (t : NS) (h : t.s.at_ ≤ B.length) (ht : t.s.ok = true) : GoOn B t.s (rNode B f t).2.s ∧ LfOn t (rNode B f t).2 ∧ ((rNode B f t).2.s.ok = true → (rNode B f t).1.sz + t.s.at_ ≤ (rNode B f t).2.s.at_ ∧ t.s.at_ < (rNode B f t).2.s.at_) := by
  obtain ⟨a1, a2, a3⟩ := rNum_go (B := B) 1 h
  obtain ⟨b1, b2, b3⟩ := rNum_go (B := B) 8 a1.2.1
  obtain ⟨c1, c2⟩ := rText_go (B := B) 32 b1.2.1
  obtain ⟨d1, d2⟩ := rVal_go (B := B) 40 _ c1.2.1
  obtain ⟨e1, e2, e3⟩ := hf ⟨t.lf - 1, (rVal B 40 (rText B 32 (rNum B 8 (rNum B 1 t.s).2).2).2).2⟩ d1.2.1
  have hg := ((a1.trans b1).trans c1).trans d1
  have hadv : (rVal B 40 (rText B 32 (rNum B 8 (rNum B 1 t.s).2).2).2).2.ok = true → t.s.at_ + 1 ≤ (rVal B 40 (rText B 32 (rNum B 8 (rNum B 1 t.s).2).2).2).2.at_ := fun o4 => by
    have o1 := b1.2.2 (c1.2.2 (d1.2.2 o4))
    have := a2 o1
    have := ((b1.trans c1).trans d1).1
    omega
  unfold rNode
  (try dsimp only at *)
  refine ⟨hg.trans e1, ?_, fun hok => ?_⟩
  · obtain ⟨l1, l2⟩ := e2
    have g2 := e1.2.2
    (try dsimp only at l1 l2 g2)
    refine ⟨by (try dsimp only); omega, ?_⟩
    (try dsimp only)
    rw [ht]
    revert l2 g2 hadv
    have h0 := hg.1
    cases (rVal B 40 (rText B 32 (rNum B 8 (rNum B 1 t.s).2).2).2).2.ok <;> cases (f ⟨t.lf - 1, (rVal B 40 (rText B 32 (rNum B 8 (rNum B 1 t.s).2).2).2).2⟩).2.s.ok <;> simp <;> omega
  · have h5 := e3 hok
    have o4 := e1.2.2 hok
    have h4 := d2 o4
    have o3 := d1.2.2 o4
    have h3 := c2 o3
    have o2 := c1.2.2 o3
    have h2 := b2 o2
    have h1 := a2 (b1.2.2 o2)
    have h6 := e1.1
    (try dsimp only at h5 h6 ⊢)
    rw [Nd.sz_eq]
    simp only [Nd.s, Nd.v, Nd.l]
    omega
theorem rLoop_node {f : NS → List Nd × NS} (hf : NdsGo B f) : ∀ (n : Nat) (t : NS), t.s.at_ ≤ B.length → GoOn B t.s (rLoop NS.ok (rNode B f) n t).2.s ∧ LfOn t (rLoop NS.ok (rNode B f) n t).2 ∧ ((rLoop NS.ok (rNode B f) n t).2.s.ok = true → szL (rLoop NS.ok (rNode B f) n t).1 + t.s.at_ ≤ (rLoop NS.ok (rNode B f) n t).2.s.at_)
  | 0, t, h => ⟨GoOn.refl h, ⟨Int.le_refl _, by show t.lf + t.s.at_ ≤ t.lf + t.s.at_ + _; split <;> omega⟩, fun _ => by simp [rLoop, szL]⟩
  | n + 1, t, h => by
    rw [rLoop]
    by_cases hs : NS.ok t = false
    · rw [if_pos hs]
      exact ⟨GoOn.refl h, ⟨Int.le_refl _, by show t.lf + t.s.at_ ≤ t.lf + t.s.at_ + _; split <;> omega⟩, fun _ => by simp [szL]⟩
    · rw [if_neg hs]
      obtain ⟨h1, h2, h3⟩ := rNode_go hf t h (by simpa [NS.ok] using hs)
      obtain ⟨k1, k2, k3⟩ := rLoop_node hf n _ h1.2.1
      refine ⟨h1.trans k1, LfOn.trans h1.2.2 k1.2.2 h2 k2, fun hok => ?_⟩
      have := k3 hok
      have := (h3 (k1.2.2 hok)).1
      simp only [szL]
      omega
theorem rNds_go : ∀ d : Nat, NdsGo B (rNds B d)
  | 0 => fun t h => ⟨(GoOn.refl h).fail, ⟨Int.le_refl _, by show t.lf + t.s.at_ ≤ t.lf + t.s.at_ + _; split <;> omega⟩, (fun x => by cases x)⟩
  | d + 1 => fun t h => by
    obtain ⟨a1, a2, a3, a4, a5⟩ := rMany_go (B := B) t.lf h
    obtain ⟨k1, k2, k3⟩ := rLoop_node (rNds_go d) (rMany B t.lf t.s).1 ⟨t.lf, (rMany B t.lf t.s).2⟩ a1.2.1
    rw [rNds]
    refine ⟨a1.trans k1, LfOn.trans (b := ⟨t.lf, (rMany B t.lf t.s).2⟩) a1.2.2 k1.2.2 ⟨Int.le_refl _, ?_⟩ k2, fun hok => ?_⟩
    · have := a1.1
      (try dsimp only)
      split <;> omega
    · have h1 := k3 hok
      have h2 := a1.1
      replace h1 : szL (rLoop NS.ok (rNode B (rNds B d)) (rMany B t.lf t.s).1 ⟨t.lf, (rMany B t.lf t.s).2⟩).1 + (rMany B t.lf t.s).2.at_ ≤ _ := h1
      omega
end
section
open Go.RowKit

theorem RdAt.ok_iface {w : World} {R : Nat} {B : List UInt8} {s : RS} (h : RdAt w R B s) (hs : s.ok = false) : ∃ t x, w.cell? ⟨R, 2, none⟩ = some (.iface t x) := by
  obtain ⟨-, bv, ev, h1, -, ⟨h3, -⟩ | ⟨-, t, x, rfl⟩⟩ := h
  · rw [hs] at h3; cases h3
  · exact ⟨t, x, by rw [cell_of_row _ _ _ _ _ _ h1]; rfl⟩
theorem RdAt.ok_nil {w : World} {R : Nat} {B : List UInt8} {s : RS} (h : RdAt w R B s) (hs : s.ok = true) : w.cell? ⟨R, 2, none⟩ = some .nilIface := by
  obtain ⟨-, bv, ev, h1, -, ⟨-, rfl⟩ | ⟨h3, -⟩⟩ := h
  · rw [cell_of_row _ _ _ _ _ _ h1]; rfl
  · rw [hs] at h3; cases h3
theorem sI_wrap (u : Nat) (h : u < 18446744073709551616) : RowKit.wrap64 (u : Int) = sI u := by
  unfold sI RowKit.wrap64
  split <;> omega
theorem rdint_any {B : List UInt8} {s : RS} {R : Nat} (pa : Nat → Addr) (w : World) (h : RdAt w R B s) (hE : Sents w pa) :
    Calls Tryd.prog 72 #[.pointer (some ⟨R, 0, none⟩)] w fun e w' => e = .returned (.int .i64 (sI (rNum B 8 s).1)) ∧ RdAt w' R B (rNum B 8 s).2 ∧ Fr (fun k => k = R) w w' := by
  have HN := hid (rdnum_any 8 (by decide) pa w h hE)
  have HW := hid (sI_wrap (rNum B 8 s).1 (by have := (rNum_go (B := B) 8 h.1.2.1).2.2; simpa using this))
  clear h hE
  go_enter Tryd.func72, Tryd.ntmps72
  go_wp2_with fail
  refine HN.out.mono ?_
  rintro e w2 ⟨rfl, hr, hf⟩
  have HR := hid hr; have HF := hid hf
  clear hr hf HN
  go_wp2_with fail
  go_ret
  exact ⟨by rw [HW.out]; rfl, HR.out, HF.out⟩
set_option maxRecDepth 100000 in
theorem rdmany_any {B : List UInt8} {s : RS} {R : Nat} (most : Int) (hm : -9223372036854775808 ≤ most ∧ most < 4294967296) (pa : Nat → Addr) (w : World) (h : RdAt w R B s) (hE : Sents w pa) :
    Calls Tryd.prog 70 #[.pointer (some ⟨R, 0, none⟩), .int .i64 most] w fun e w' => e = .returned (.int .i64 ((rMany B most s).1 : Int)) ∧ RdAt w' R B (rMany B most s).2 ∧ Fr (fun k => k = R) w w' := by
  have HN := hid (rdnum_any 4 (by decide) pa w h hE)
  have hn := (rNum_go (B := B) 4 h.1.2.1).2.2
  have hR := h.1.1
  have HD := hid (show rMany B most s = if (rNum B 4 s).2.ok = false ∨ (0 ≤ most ∧ most < ((rNum B 4 s).1 : Int)) then (0, (rNum B 4 s).2.fail) else rNum B 4 s from rfl)
  rw [HD.out]
  clear h
  have hn' : (rNum B 4 s).1 < 4294967296 := by simpa using hn
  obtain ⟨⟨n, t⟩, hq⟩ : ∃ q, rNum B 4 s = q := ⟨_, rfl⟩
  rw [hq] at HN hn' ⊢
  clear hq HD hn
  dsimp only at HN hn' ⊢
  have hn64 : IntKind.i64.wrap (n : Int) = n := IntWalk.i64_in _ (by omega)
  have HE := hid hE; have HR := hid hR
  have HW := hid hn64
  have hmw : IntKind.u64.wrap most = if 0 ≤ most then most else most + 18446744073709551616 := by
    split
    · exact IntWalk.u64_in _ (by omega)
    · rw [IntKind.wrap_u64]; omega
  by_cases hc : 0 ≤ most ∧ most < (n : Int)
  · rw [if_pos (.inr hc)]
    rw [if_pos hc.1] at hmw
    have hgt : (n : Int) > most := hc.2
    have HMW := hid hmw
    clear hmw hE
    go_enter Tryd.func70, Tryd.ntmps70
    go_wp2_with fail
    refine HN.out.mono ?_
    rintro e w2 ⟨rfl, hr, hf⟩
    have HRR := hid hr; have HF := hid hf
    have e2 : w2.cell? ⟨2, 0, none⟩ = some (.iface 175 (.pointer (some (pa 3)))) := (HE.out.at_ hf HR.out) 3 (by decide)
    clear hr hf HN
    go_wp2_with fail
    refine (rdfail_any w2 HRR.out 175 (.pointer (some (pa 3)))).mono ?_
    rintro e w3 ⟨rfl, hr3, hf3⟩
    have HR3 := hid hr3; have HF3 := hid (HF.out.trans' hf3)
    obtain ⟨tt, xx, d2⟩ := hr3.ok_iface rfl
    clear hr3 hf3
    go_wp2_with fail
    go_ret
    exact ⟨rfl, HR3.out, HF3.out⟩
  · have hng : ¬ ((n : Int) > if 0 ≤ most then most else most + 18446744073709551616) := by split <;> omega
    rw [← hmw] at hng
    generalize hmg : IntKind.u64.wrap most = mw at *
    have HMG := hid hmg
    clear hmw hE
    have HT := hid (show (if t.ok = false ∨ (0 ≤ most ∧ most < (n : Int)) then ((0 : Nat), t.fail) else (n, t)) = if t.ok = false then (0, t.fail) else (n, t) by
      by_cases h : t.ok = false
      · rw [if_pos h, if_pos (.inl h)]
      · rw [if_neg h, if_neg (fun e => e.elim h hc)])
    rw [HT.out]
    clear HT hc
    by_cases hok : t.ok = false
    · rw [if_pos hok]
      have HOK := hid hok
      clear hok
      go_enter Tryd.func70, Tryd.ntmps70
      go_wp2_with fail
      refine HN.out.mono ?_
      rintro e w2 ⟨rfl, hr, hf⟩
      obtain ⟨tt, xx, d2⟩ := hr.ok_iface HOK.out
      have HR9 := hid (show RdAt w2 R B t.fail from ⟨hr.1, by
        obtain ⟨-, bv, ev, h1, h2, h3⟩ := hr
        exact ⟨bv, ev, h1, h2, .inr ⟨rfl, h3.elim (fun h => by rw [HOK.out] at h; cases h.1) fun h => h.2⟩⟩⟩)
      have HF := hid hf
      clear hr hf HN
      go_wp2_with fail
      go_ret
      exact ⟨rfl, HR9.out, HF.out⟩
    · rw [if_neg hok]
      have HOK := hid hok
      clear hok
      go_enter Tryd.func70, Tryd.ntmps70
      go_wp2_with fail
      refine HN.out.mono ?_
      rintro e w2 ⟨rfl, hr, hf⟩
      have HRR := hid hr; have HF := hid hf
      have d2 := hr.ok_nil (by simpa using HOK.out)
      clear hr hf HN
      go_wp2_with fail
      go_ret
      exact ⟨rfl, HRR.out, HF.out⟩
set_option maxRecDepth 100000 in
theorem rdtext_any {B : List UInt8} {s : RS} {R : Nat} (most : Int) (hm : -9223372036854775808 ≤ most ∧ most < 4294967296) (pa : Nat → Addr) (w : World) (h : RdAt w R B s) (hE : Sents w pa) :
    Calls Tryd.prog 73 #[.pointer (some ⟨R, 0, none⟩), .int .i64 most] w fun e w' => e = .returned (.string (rText B most s).1) ∧ RdAt w' R B (rText B most s).2 ∧ Fr (fun k => k = R) w w' := by
  have HN := hid (rdmany_any most hm pa w h hE)
  have hg := rMany_go (B := B) most h.1.2.1
  have hR := h.1.1
  have hBl := h.1.2.2
  have HD := hid (show rText B most s = if (rMany B most s).2.ok = false ∨ B.length < (rMany B most s).2.at_ + (rMany B most s).1 then (⟨#[]⟩, (rMany B most s).2.fail) else (⟨((B.drop (rMany B most s).2.at_).take (rMany B most s).1).toArray⟩, ⟨(rMany B most s).2.at_ + (rMany B most s).1, true⟩) from rfl)
  rw [HD.out]
  clear h
  obtain ⟨⟨n, t⟩, hq⟩ : ∃ q, rMany B most s = q := ⟨_, rfl⟩
  rw [hq] at HN hg ⊢
  clear hq HD
  obtain ⟨⟨-, hta, -⟩, -, hn, -, h0⟩ := hg
  dsimp only at HN hn hta h0 ⊢
  have HE := hid hE; have HR := hid hR
  have HLE := hid (fun (w2 : World) (h : RdAt w2 R B t) => rdleft_any w2 h)
  by_cases hc : B.length < t.at_ + n
  · rw [if_pos (.inr hc)]
    clear hE
    go_enter Tryd.func73, Tryd.ntmps73
    go_wp2_with fail
    refine HN.out.mono ?_
    rintro e w2 ⟨rfl, hr, hf⟩
    have HRR := hid hr; have HF := hid hf
    clear hr hf HN
    go_wp2_with fail
    refine (HLE.out w2 HRR.out).mono ?_
    rintro e w3 ⟨rfl, hf3⟩
    have HF3 := hid (HF.out.trans hf3 (U := fun k => k = R) (fun _ _ h => h) (fun _ _ h => h.elim))
    have HR3 := hid (HRR.out.frame hf3)
    have e3 : w3.cell? ⟨4, 0, none⟩ = some (.iface 175 (.pointer (some (pa 0)))) := (HE.out.at_ HF3.out HR.out) 0 (by decide)
    clear hf3
    go_wp2_with fail
    refine (rdfail_any w3 HR3.out 175 (.pointer (some (pa 0)))).mono ?_
    rintro e w4 ⟨rfl, hr4, hf4⟩
    have HR4 := hid hr4; have HF4 := hid (HF3.out.trans' hf4)
    obtain ⟨tt, xx, d2⟩ := hr4.ok_iface rfl
    clear hr4 hf4
    go_wp2_with fail
    go_ret
    exact ⟨rfl, HR4.out, HF4.out⟩
  by_cases hok : t.ok = false
  · rw [if_pos (.inl hok)]
    have HOK := hid hok
    clear hok hE
    go_enter Tryd.func73, Tryd.ntmps73
    go_wp2_with fail
    refine HN.out.mono ?_
    rintro e w2 ⟨rfl, hr, hf⟩
    have HRR := hid hr; have HF := hid hf
    clear hr hf HN
    go_wp2_with fail
    refine (HLE.out w2 HRR.out).mono ?_
    rintro e w3 ⟨rfl, hf3⟩
    have HF3 := hid (HF.out.trans hf3 (U := fun k => k = R) (fun _ _ h => h) (fun _ _ h => h.elim))
    have HR3 := hid (HRR.out.frame hf3)
    obtain ⟨tt, xx, d2⟩ := HR3.out.ok_iface HOK.out
    have HR9 := hid (show RdAt w3 R B t.fail from ⟨HR3.out.1, by
      obtain ⟨-, bv, ev, h1, h2, h3⟩ := HR3.out
      exact ⟨bv, ev, h1, h2, .inr ⟨rfl, h3.elim (fun h => by rw [HOK.out] at h; cases h.1) fun h => h.2⟩⟩⟩)
    clear hf3
    go_wp2_with fail
    go_ret
    exact ⟨rfl, HR9.out, HF3.out⟩
  · rw [if_neg (fun e => e.elim hok hc)]
    have HOK := hid hok
    clear hok hE
    have hle : t.at_ + n ≤ B.length := by omega
    have hge : ¬ ((B.length : Int) - t.at_ < n) := by omega
    go_enter Tryd.func73, Tryd.ntmps73
    go_wp2_with fail
    refine HN.out.mono ?_
    rintro e w2 ⟨rfl, hr, hf⟩
    have HRR := hid hr; have HF := hid hf
    clear hr hf HN
    go_wp2_with fail
    refine (HLE.out w2 HRR.out).mono ?_
    rintro e w3 ⟨rfl, hf3⟩
    have HF3 := hid (HF.out.trans hf3 (U := fun k => k = R) (fun _ _ h => h) (fun _ _ h => h.elim))
    have HR3 := hid (HRR.out.frame hf3)
    obtain ⟨-, bv, ev, h1, h2, ⟨-, rfl⟩ | ⟨h3, -⟩⟩ := HR3.out
    case inr => exact absurd h3 HOK.out
    have d1 : w3.cell? ⟨R, 1, none⟩ = some (.int .i64 (t.at_ : Int)) := by rw [cell_of_row _ _ _ _ _ _ h1]; rfl
    have d2 : w3.cell? ⟨R, 2, none⟩ = some .nilIface := by rw [cell_of_row _ _ _ _ _ _ h1]; rfl
    have f1 := frozen_of_row w3 _ 1 _ _ h1
    have hnI : (n : Int) ≤ 1073741824 := by omega
    have htI : (t.at_ : Int) ≤ 1073741824 := by omega
    obtain ⟨k1, k2⟩ := (set3 h1).1 (.int .i64 ((t.at_ : Int) + n))
    have K1 := hid k1; have HK2 := hid k2
    have HB3 := hid (h2.frame k2 fun _ h => Nat.ne_of_lt h)
    clear k1 k2 h1 h2 hf3
    go_upto_region 7 with fail
    generalize w3.setCell ⟨R, 1, none⟩ (.int .i64 ((t.at_ : Int) + n)) = w4 at *
    have c0 : w4.cell? ⟨R, 0, none⟩ = some bv := by rw [cell_of_row _ _ _ _ _ _ K1.out]; rfl
    have c1 : w4.cell? ⟨R, 1, none⟩ = some (.int .i64 ((t.at_ : Int) + n)) := by rw [cell_of_row _ _ _ _ _ _ K1.out]; rfl
    have HF4 := hid (HF3.out.trans' HK2.out)
    have HB4 := hid HB3.out
    obtain ⟨a, c, rfl, hlc, hcm, -⟩ := HB3.out
    have HCV := hid (fun (w' : World) (hf : Fr (fun _ => False) w4 w') (a' : Option Addr) (c' : Nat) (hc' : c' = c - t.at_) (ha : a' = if c = t.at_ then a else a.map fun x => x.add t.at_) => by
      have h1 := Bs.sub (a' := a') (c' := c') (len' := n) HB4.out t.at_ (t.at_ + n) (by omega) hle (by omega) hc' ha
      have h2 := conv_bytes (h1.frame hf fun _ _ => not_false) 41 5 9 Tryd.underlying41 Tryd.underlying5 Tryd.underlying9
      have h3 : (B.take (t.at_ + n)).drop t.at_ = (B.drop t.at_).take n := by rw [List.drop_take, show t.at_ + n - t.at_ = n by omega]
      rw [h3] at h2
      exact h2)
    have hsub : ((t.at_ : Int) + n) - n = t.at_ := by omega
    have hle2 : (t.at_ : Int) ≤ t.at_ + n := by omega
    have hcI : (t.at_ : Int) + n ≤ c := by omega
    unfold maxLen at hcm
    have C0 := hid c0; have C1 := hid c1
    clear c0 c1
    refine wp_region_ord [(0, 0), (1, 0), (2, 0), (3, 0), (4, 0), (5, 0), (6, 0), (7, 0), (8, 0), (9, 0), (10, 0), (11, 0), (12, 0), (13, 0), (14, 0), (15, 0), (16, 0)] (fun w' => Fr (fun _ => False) w4 w') (by kernel_rfl) (by kernel_rfl) (by kernel_rfl) rfl (fun _ _ d _ _ h => by cases d <;> exact h) (Fr.refl _ _).drew ?_
    iterate 3 (refine wpO_take ?_ rfl (by kernel_rfl) ?_ ?_; rotate_left; (· intro w' hS; go_simp; try with_reducible rfl); try simp only [Act.put, List.setIfInBounds_toArray, List.set_cons_zero, List.set_cons_succ])
    (refine wpO_take ?_ rfl (by kernel_rfl) ?_ ?_; rotate_left; (· intro w' hS; have c0 := hS.cell C0.out not_false; go_simp; try with_reducible rfl); try simp only [Act.put, List.setIfInBounds_toArray, List.set_cons_zero, List.set_cons_succ])
    iterate 3 (refine wpO_take ?_ rfl (by kernel_rfl) ?_ ?_; rotate_left; (· intro w' hS; go_simp; try with_reducible rfl); try simp only [Act.put, List.setIfInBounds_toArray, List.set_cons_zero, List.set_cons_succ])
    (refine wpO_take ?_ rfl (by kernel_rfl) ?_ ?_; rotate_left; (· intro w' hS; have c0 := hS.cell C1.out not_false; go_simp; try with_reducible rfl); try simp only [Act.put, List.setIfInBounds_toArray, List.set_cons_zero, List.set_cons_succ])
    iterate 5 (refine wpO_take ?_ rfl (by kernel_rfl) ?_ ?_; rotate_left; (· intro w' hS; go_simp; try with_reducible rfl); try simp only [Act.put, List.setIfInBounds_toArray, List.set_cons_zero, List.set_cons_succ])
    (refine wpO_take ?_ rfl (by kernel_rfl) ?_ ?_; rotate_left; (· intro w' hS; have c0 := hS.cell C1.out not_false; go_simp; try with_reducible rfl); try simp only [Act.put, List.setIfInBounds_toArray, List.set_cons_zero, List.set_cons_succ])
    have hwr : IntKind.i64.wrap (t.at_ : Int) = t.at_ := IntWalk.i64_in _ (by omega)
    have hnn : (0 : Int) ≤ t.at_ + n := by omega
    have htn : ((t.at_ : Int) + n).toNat - t.at_ = n := by omega
    (refine wpO_take ?_ rfl (by kernel_rfl) ?_ ?_; rotate_left; (· intro w' hS; go_simp; try with_reducible rfl); try simp only [Act.put, List.setIfInBounds_toArray, List.set_cons_zero, List.set_cons_succ])
    (refine wpO_take ?_ rfl (by kernel_rfl) ?_ ?_; rotate_left; (· intro w' hS; have hcv := HCV.out w' hS _ _ rfl rfl; go_simp; try with_reducible rfl); try simp only [Act.put, List.setIfInBounds_toArray, List.set_cons_zero, List.set_cons_succ])
    (refine wpO_take ?_ rfl (by kernel_rfl) ?_ ?_; rotate_left; (· intro w' hS; go_simp; try with_reducible rfl); try simp only [Act.put, List.setIfInBounds_toArray, List.set_cons_zero, List.set_cons_succ])
    refine wpO_end ?_
    have HR5 := hid (show RdAt w4.drew R B ⟨t.at_ + n, true⟩ from ⟨⟨HR.out, hle, hBl⟩, _, _, by simpa using ((Fr.refl (fun _ => False) w4).drew).heap K1.out not_false, HB4.out.frame ((Fr.refl (fun _ => False) w4).drew) fun _ _ => not_false, .inl ⟨rfl, rfl⟩⟩)
    have HF5 := hid (HF4.out.drew)
    clear hsub hle2 hcI hwr hnn htn
    go_wp2_with fail
    all_goals go_ret
    all_goals exact ⟨rfl, HR5.out, HF5.out⟩
end
end Go.Proofs.YtbegahbagnflnaaDoor
