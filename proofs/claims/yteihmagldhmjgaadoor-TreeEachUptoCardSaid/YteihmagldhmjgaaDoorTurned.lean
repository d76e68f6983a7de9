/- TreeTurned: world.Program, a copy's node set, the law's walk (Few, WNodes, Number, TurnA, TurnC, TurnB in one text: a claim has at most 60 files). -/
import Derived.Test.YteihmagldhmjgaaDoorRefRight
import Derived.Test.YteihmagldhmjgaaDoorTreeF
import Derived.Test.YteihmagldhmjgaaDoorLib
import Derived.Test.YteihmagldhmjgaaDoorClone
import Derived.Test.YteihmagldhmjgaaDoorNodSameX
import Derived.Test.YteihmagldhmjgaaDoorDocG
import Derived.Test.YteihmagldhmjgaaDoorSteps
import Derived.Test.YteihmagldhmjgaaDoorFives
namespace Go.Proofs.YteihmagldhmjgaaDoor
section
open Go.RowKit

mutual
def V.few : V → Nat → Nat → Option Nat
  | .mk _ _ s l, left, deep => if left < 1 + s.size / 16 ∨ 60 < deep then none else fewL l (left - (1 + s.size / 16)) (deep + 1)
def fewL : List V → Nat → Nat → Option Nat
  | [], left, _ => some left
  | x :: r, left, deep => match V.few x left deep with
    | none => none
    | some n => fewL r n deep
end
theorem V.few_eq (x : V) (left deep : Nat) : x.few left deep = if left < 1 + x.s.size / 16 ∨ 60 < deep then none else fewL x.l (left - (1 + x.s.size / 16)) (deep + 1) := by
  cases x; simp only [V.few, V.s, V.l]; rfl
theorem fewL_drop (l : List V) (k left deep : Nat) (x : V) (h : l[k]? = some x) : fewL (l.drop k) left deep = match x.few left deep with
    | none => none
    | some n => fewL (l.drop (k + 1)) n deep := by
  have hk := (List.getElem?_eq_some_iff.1 h).1
  rw [List.drop_eq_getElem_cons hk]
  have : l[k] = x := (List.getElem?_eq_some_iff.1 h).2
  rw [this, fewL]
mutual
theorem V.few_le : ∀ (x : V) (left deep n : Nat), x.few left deep = some n → n ≤ left
  | .mk k n s l, left, deep, m, h => by
    simp only [V.few] at h
    split at h
    · cases h
    · have := fewL_le l _ _ _ h
      omega
theorem fewL_le : ∀ (l : List V) (left deep n : Nat), fewL l left deep = some n → n ≤ left
  | [], left, deep, n, h => by simp [fewL] at h; omega
  | x :: r, left, deep, n, h => by
    simp only [fewL] at h
    split at h
    · cases h
    · rename_i m hm
      have h1 := V.few_le x left deep m hm
      have h2 := fewL_le r m deep n h
      omega
end
def fewI : Option Nat → Int
  | none => -1
  | some n => n

mutual
theorem V.odd_few : ∀ (x : V) (deep sz : Nat), (x.odd deep sz).1 = 0 → sz ≤ (x.odd deep sz).2 ∧ (x.odd deep sz).2 ≤ 4096 ∧ ∀ left d, d + 1 = deep → (x.odd deep sz).2 ≤ left + sz → ∃ n, x.few left d = some n ∧ left + sz ≤ n + (x.odd deep sz).2
  | .mk k n s l, deep, sz, h => by
    have ih := oddL_few l (deep + 1) (oddSize k s sz)
    simp only [V.odd] at h ⊢
    by_cases h1 : 40 < deep
    · simp [h1] at h
    simp only [if_neg h1] at h ⊢
    by_cases h2 : 4096 < oddSize k s sz
    · simp [h2] at h
    simp only [if_neg h2] at h ⊢
    cases h3 : oddRange k n
    case true => simp [h3] at h
    simp only [h3, Bool.false_eq_true, if_false] at h ⊢
    cases h4 : oddShape k n s l.isEmpty
    case true => simp [h4] at h
    simp only [h4, Bool.false_eq_true, if_false] at h ⊢
    have hc : sz + 1 + s.size / 16 ≤ oddSize k s sz := by
      unfold oddSize
      by_cases hk : k = 2
      · rw [if_pos hk]; omega
      · rw [if_neg hk]
        have : s.size = 0 := by
          cases h5 : (s.size != 0)
          · exact bne_eq_false_iff_eq.1 h5
          · have hk2 : (k != 2) = true := bne_iff_ne.2 hk
            unfold oddShape at h4
            rw [hk2, h5] at h4
            simp at h4
        omega
    obtain ⟨i1, i2, i3⟩ := ih (by omega) h
    refine ⟨by omega, i2, fun left d hd hl => ?_⟩
    simp only [V.few]
    rw [if_neg (by omega)]
    obtain ⟨m, hm, hle⟩ := i3 (left - (1 + s.size / 16)) (d + 1) (by omega) (by omega)
    exact ⟨m, hm, by omega⟩
theorem oddL_few : ∀ (l : List V) (deep sz : Nat), sz ≤ 4096 → (oddL l deep sz).1 = 0 → sz ≤ (oddL l deep sz).2 ∧ (oddL l deep sz).2 ≤ 4096 ∧ ∀ left d, d + 1 = deep → (oddL l deep sz).2 ≤ left + sz → ∃ n, fewL l left d = some n ∧ left + sz ≤ n + (oddL l deep sz).2
  | [], deep, sz, hz, h => by
    simp only [oddL, fewL]
    exact ⟨Nat.le_refl _, hz, fun left d _ _ => ⟨left, rfl, Nat.le_refl _⟩⟩
  | x :: r, deep, sz, hz, h => by
    simp only [oddL] at h ⊢
    by_cases h0 : (x.odd deep sz).1 = 0
    · rw [if_pos h0] at h ⊢
      obtain ⟨a1, a2, a3⟩ := V.odd_few x deep sz h0
      obtain ⟨b1, b2, b3⟩ := oddL_few r deep _ a2 h
      refine ⟨by omega, b2, fun left d hd hl => ?_⟩
      obtain ⟨n, hn, hn2⟩ := a3 left d hd (by omega)
      obtain ⟨m, hm, hm2⟩ := b3 n d hd (by omega)
      refine ⟨m, ?_, by omega⟩
      simp only [fewL, hn]
      exact hm
    · rw [if_neg h0] at h
      exact absurd h h0
end
theorem small_of_valid {x : V} (h : x.valid = 0) : ∃ n, x.few 6000 0 = some n := by
  obtain ⟨h1, h2, h3⟩ := V.odd_few x 1 0 h
  obtain ⟨n, hn, _⟩ := h3 6000 0 rfl (by omega)
  exact ⟨n, hn⟩

set_option maxHeartbeats 1600000 in
theorem few_any : ∀ (N : Nat) (x : V), x.size ≤ N → ∀ (D : Nat → Prop) (w : World) (u : Array Value) (left deep : Nat), VIn D w x u → x.size ≤ 1099511627776 → left ≤ 1099511627776 → deep ≤ 61 →
    Calls Tryd.prog 57 #[.agg u, .int .i64 left, .int .i64 deep] w fun e w' => e = .returned (.int .i64 (fewI (x.few left deep))) ∧ Fr (fun _ => False) w w' := by
  intro N
  induction N with
  | zero =>
    intro x h
    rw [V.size_eq] at h
    omega
  | succ N ih =>
    intro x hN D w u left deep h hM hz hd
    have hs := V.size_eq x
    rw [V.few_eq]
    obtain ⟨v, rfl, a, cap, us, rfl, hc, hm, hn, hb, hi⟩ := h.open
    have hlm : x.l.length ≤ 9223372036854775807 := Nat.le_trans hc hm
    have hsm : x.s.size ≤ 1099511627776 := by omega
    generalize x.k = kk at *
    generalize x.n = nn at *
    generalize x.s = ss at *
    generalize x.l = l at *
    obtain ⟨r, hr⟩ : ∃ r, r = fewI (if left < 1 + ss.size / 16 ∨ 60 < deep then none else fewL l (left - (1 + ss.size / 16)) (deep + 1)) := ⟨_, rfl⟩
    rw [← hr]
    have hF : Fr (fun _ => False) w (w.alloc (.cells #[.int .i64 kk, .int .i64 nn, .string ss, .slice a l.length cap] 26)) := (Fr.refl _ _).alloc _
    have hb1 : (w.alloc (.cells #[.int .i64 kk, .int .i64 nn, .string ss, .slice a l.length cap] 26)).heap[w.heap.size]? = some (.cells #[.int .i64 kk, .int .i64 nn, .string ss, .slice a l.length cap] 26) := heap_alloc_new w _
    have d2 : (w.alloc (.cells #[.int .i64 kk, .int .i64 nn, .string ss, .slice a l.length cap] 26)).cell? ⟨w.heap.size, 2, none⟩ = some (.string ss) := by rw [cell_of_row _ _ 2 _ _ _ hb1]; rfl
    have d3 : (w.alloc (.cells #[.int .i64 kk, .int .i64 nn, .string ss, .slice a l.length cap] 26)).cell? ⟨w.heap.size, 3, none⟩ = some (.slice a l.length cap) := by rw [cell_of_row _ _ 3 _ _ _ hb1]; rfl
    have HB := hid hb; have HI := hid hi; have HS := hid hs; have HM := hid hM; have HN := hid hN; have HF := hid hF; have HR := hid hr; have HIH := hid ih; have HD3 := hid d3
    clear hb hi hs hM hN h hn hF hb1 hr ih
    by_cases h1 : (left : Int) - 1 - (ss.size : Int) / 16 < 0
    · have hr : r = -1 := by rw [HR.out, if_pos (by omega)]; rfl
      subst hr
      go_enter Tryd.func57, Tryd.ntmps57
      go_wp2
      go_ret
      exact ⟨rfl, HF.out⟩
    by_cases h2 : (60 : Int) < deep
    · have hr : r = -1 := by rw [HR.out, if_pos (by omega)]; rfl
      subst hr
      go_enter Tryd.func57, Tryd.ntmps57
      go_wp2
      go_ret
      exact ⟨rfl, HF.out⟩
    have hr : r = fewI (fewL l (left - (1 + ss.size / 16)) (deep + 1)) := by rw [HR.out, if_neg (by omega)]
    obtain ⟨z, hz1, hz2⟩ : ∃ z : Nat, (left : Int) - 1 - (ss.size : Int) / 16 = z ∧ z = left - (1 + ss.size / 16) := ⟨left - (1 + ss.size / 16), by omega, rfl⟩
    rw [← hz2] at hr
    have hzl : z ≤ left := by omega
    have HR' := hid hr; have HZ := hid hz1
    clear HR hr hz2 hz1
    go_enter Tryd.func57, Tryd.ntmps57
    go_upto_region 5 with fail
    rw [HZ.out]
    generalize hW1 : w.alloc (.cells #[.int .i64 kk, .int .i64 nn, .string ss, .slice a l.length cap] 26) = W1 at *
    clear hW1 d2
    go_loopw [1, 7] (fun lv i wr => ∃ k zk : Nat, k ≤ l.length ∧ i = .int .i64 k ∧ lv = .int .i64 zk ∧ zk ≤ z ∧ fewL l z (deep + 1) = fewL (l.drop k) zk (deep + 1) ∧ Fr (fun _ => False) W1 wr) (fun _ i _ => l.length - (intOf i).toNat)
    case atStart => exact ⟨0, z, Nat.zero_le _, rfl, rfl, Nat.le_refl _, rfl, Fr.refl _ _⟩
    case round =>
      obtain ⟨k, zk, hk, rfl, rfl, hzk, heq, hf⟩ := hrel
      have d3 := hf.cell HD3.out not_false
      by_cases hlt : k < l.length
      · obtain ⟨b, o, y, a', c', rfl, -, hy, hv, e0, e1, e2, e3⟩ := VL.elem HB.out HI.out k hlt
        have hf0 := HF.out.trans' hf
        replace e0 := hf0.cell e0 not_false
        replace e1 := hf0.cell e1 not_false
        replace e2 := hf0.cell e2 not_false
        replace e3 := hf0.cell e3 not_false
        have hv2 := hv.frame hf0 (fun _ _ => not_false)
        have t2 := sizeL_mem hy
        have hy1 : y.size ≤ N := by have := HS.out; have := HN.out; omega
        have hod := fewL_drop l k zk (deep + 1) y hy
        have hole := fun n => y.few_le zk (deep + 1) n
        have hc := HIH.out y hy1 D wr _ zk (deep + 1) hv2 (by have := HM.out; have := HS.out; omega) (by omega) (by omega)
        rw [hod] at heq
        have HE := hid heq; have HFr := hid hf; have HC := hid hc; have HL := hid hole
        clear hv t2 hf hf0 hv2 hc hy1 hod heq hole hy
        generalize y.few zk (deep + 1) = ry at *
        go_wp2_with fail
        refine HC.out.mono ?_
        rintro e w2 ⟨rfl, hf2⟩
        have HF2 := hid (HFr.out.trans' hf2)
        clear hf2
        cases ry with
        | none =>
          have hrr : r = -1 := by rw [HR'.out, HE.out]; rfl
          subst hrr
          simp only [fewI]
          go_wp2
          go_ret
          exact ⟨rfl, HF.out.trans' HF2.out⟩
        | some n =>
          have hnz := HL.out n rfl
          have hE2 := hid (show fewL l z (deep + 1) = fewL (l.drop (k + 1)) n (deep + 1) from HE.out)
          simp only [fewI]
          go_wp2
          go_roundw
          case rel => exact ⟨k + 1, n, by omega, by go_num, rfl, by omega, hE2.out, HF2.out⟩
          case measure => simp [intOf]; omega
      · go_wp2
        go_ret
        have hrr := HR'.out
        rw [heq, List.drop_of_length_le (by omega), fewL] at hrr
        rw [hrr]
        exact ⟨rfl, HF.out.trans' hf⟩

def V.small (x : V) : Bool := decide (0 ≤ fewI (x.few 6000 0))
theorem V.small_of {x : V} (h : x.valid = 0) : x.small = true := by
  obtain ⟨n, hn⟩ := small_of_valid h
  unfold V.small
  rw [hn]
  simp [fewI]
end
section
open Go.RowKit

theorem fewI_range (x : V) (left deep : Nat) : -1 ≤ fewI (x.few left deep) ∧ fewI (x.few left deep) ≤ left := by
  have h := x.few_le left deep
  cases hr : x.few left deep with
  | none => simp [fewI]
  | some n =>
    have := h n hr
    simp only [fewI]
    omega
set_option maxRecDepth 100000 in
set_option maxHeartbeats 1600000 in
theorem wnodes_any : ∀ (N : Nat) (l : List Nd), cntL l < N → szL l ≤ 1099511627776 → ∀ (left deep : Nat), left ≤ 1099511627776 → deep ≤ 61 → ∀ (D : Nat → Prop) (w : World) (v : Value), NL D w l v →
    Calls Tryd.prog 39 #[v, .int .i64 left, .int .i64 deep] w fun e w' => (∃ r : Int, e = .returned (.int .i64 r) ∧ -1 ≤ r ∧ r ≤ left) ∧ Fr (fun _ => False) w w' := by
  intro N
  induction N with
  | zero =>
    intro l hN
    omega
  | succ N ih =>
    intro l hN hM left deep hz hd D w v h
    have hll := Nat.le_trans (len_le_cnt l) (cntL_szL l)
    obtain ⟨a, cap, us, rfl, hc, hm, hn, hb, hi⟩ := h
    have hlI : (l.length : Int) ≤ 1099511627776 := by omega
    have hdI : (deep : Int) ≤ 61 := by omega
    have HB := hid hb; have HI := hid hi; have HM := hid hM; have HN := hid hN; have HIH := hid ih
    clear hb hi hM hN hn hll hc hm ih
    go_enter Tryd.func39, Tryd.ntmps39
    go_wp2
    go_loopw [1, 7] (fun lv i wr => ∃ k q : Nat, k ≤ l.length ∧ i = .int .i64 k ∧ lv = .int .i64 q ∧ q ≤ left ∧ Fr (fun _ => False) w wr) (fun _ i _ => l.length - (intOf i).toNat)
    case atStart => exact ⟨0, left, Nat.zero_le _, rfl, rfl, Nat.le_refl _, Fr.refl _ _⟩
    case round =>
      obtain ⟨k, q, hk, rfl, rfl, hq, hf⟩ := hrel
      have HF := hid hf
      by_cases hlt : k < l.length
      · obtain ⟨b, o, y, va, c1, a', c', rfl, -, hy, hv, e0, e1, e2, e3, e4, e5, e6, e7⟩ := NL.elem HB.out HI.out k hlt
        have hlt' : (k : Int) < l.length := by omega
        replace e2 := hf.cell e2 not_false
        replace e3 := hf.cell e3 not_false
        replace e4 := hf.cell e4 not_false
        replace e5 := hf.cell e5 not_false
        replace e6 := hf.cell e6 not_false
        replace e7 := hf.cell e7 not_false
        have t2 := cntL_mem hy
        have t3 := szL_mem hy
        have t4 := Nd.cnt_eq y
        have t5 := Nd.sz_eq y
        have hss : (y.s.size : Int) ≤ 1099511627776 := by have := HM.out; omega
        obtain ⟨va2, vl, he, hyv, hyl⟩ := hv.open
        obtain ⟨rfl, rfl⟩ : va2 = .slice va y.v.l.length c1 ∧ vl = .slice a' y.l.length c' := by simp at he; exact ⟨he.1.symm, he.2.symm⟩
        have hvx : VIn D w y.v #[.int .i64 y.v.k, .int .i64 y.v.n, .string y.v.s, .slice va y.v.l.length c1] := by
          have := hyv.close y.v.k y.v.n y.v.s
          have e : y.v = .mk y.v.k y.v.n y.v.s y.v.l := by cases y.v; rfl
          rw [← e] at this; exact this
        have HFW := hid (fun (z : Nat) (hz : z ≤ 1099511627776) => few_any y.v.size y.v (Nat.le_refl _) D wr _ z 0 (hvx.frame hf fun _ _ => not_false) (by have := HM.out; omega) hz (by omega))
        have HNO := hid (fun (w2 : World) (hf2 : Fr (fun _ => False) w w2) (z : Nat) (hz : z ≤ 1099511627776) (hd2 : deep + 1 ≤ 61) => HIH.out y.l (by have := HN.out; omega) (by have := HM.out; omega) z (deep + 1) hz hd2 D w2 _ (hyl.frame hf2 fun _ _ => not_false))
        have HRG := hid (fun z => fewI_range y.v z 0)
        clear t2 t3 t4 t5 hv hyv hyl he hvx hy hf e0 e1
        by_cases h1 : (q : Int) - 1 - (y.s.size : Int) / 16 < 0
        · go_wp2_with fail
          go_ret
          exact ⟨⟨_, rfl, by omega, by omega⟩, HF.out⟩
        by_cases h2 : (60 : Int) < deep
        · go_wp2_with fail
          go_ret
          exact ⟨⟨_, rfl, by omega, by omega⟩, HF.out⟩
        obtain ⟨z, hz1⟩ : ∃ z : Nat, (q : Int) - 1 - (y.s.size : Int) / 16 = z := ⟨((q : Int) - 1 - (y.s.size : Int) / 16).toNat, by omega⟩
        have hzq : z ≤ q := by omega
        have HZ := hid hz1
        obtain ⟨r, hr⟩ : ∃ r, fewI (y.v.few z 0) = r := ⟨_, rfl⟩
        have hrg := HRG.out z
        have HF1 := hid (HFW.out z (by omega))
        rw [hr] at hrg HF1
        obtain ⟨hrg1, hrg2⟩ := hrg
        clear HFW HRG hz1 hr
        go_upto_region 7 with fail
        rw [HZ.out]
        go_wp2_with fail
        refine HF1.out.mono ?_
        rintro e w2 ⟨rfl, hf2⟩
        have HF2 := hid (HF.out.trans' hf2)
        replace e7 := hf2.cell e7 not_false
        clear hf2 e2 e3 e4 e5 e6 h1
        by_cases h3 : r < 0
        · go_wp2_with fail
          go_ret
          exact ⟨⟨_, rfl, by omega, by omega⟩, HF2.out⟩
        obtain ⟨r2, rfl⟩ : ∃ r2 : Nat, r = r2 := ⟨r.toNat, by omega⟩
        have HN2 := hid (HNO.out w2 HF2.out r2 (by omega) (by omega))
        go_wp2_with fail
        refine HN2.out.mono ?_
        rintro e w3 ⟨⟨r3, rfl, h5, h6⟩, hf3⟩
        have HF3 := hid (HF2.out.trans' hf3)
        clear hf3 e7
        by_cases h7 : r3 < 0
        · go_wp2_with fail
          go_ret
          exact ⟨⟨_, rfl, by omega, by omega⟩, HF3.out⟩
        obtain ⟨r4, rfl⟩ : ∃ r4 : Nat, r3 = r4 := ⟨r3.toNat, by omega⟩
        go_wp2_with fail
        go_roundw
        case rel => exact ⟨k + 1, r4, by omega, by go_num, rfl, by omega, HF3.out⟩
        case measure => simp [intOf]; omega
      · obtain rfl : k = l.length := by omega
        go_wp2
        go_ret
        exact ⟨⟨_, rfl, by omega, by omega⟩, HF.out⟩
theorem wNodes_any (l : List Nd) (hM : szL l ≤ 1099511627776) (n : Nat) (hn : n ≤ 1099511627776) (D : Nat → Prop) (w : World) (v : Value) (h : NL D w l v) :
    Calls Tryd.prog 14 #[v, .int .i64 n] w fun e w' => (∃ b : Bool, e = .returned (.bool b)) ∧ Fr (fun _ => False) w w' := by
  have HC := hid (wnodes_any (cntL l + 1) l (by omega) hM n 0 hn (by omega) D w v h)
  obtain ⟨a, cap, us, rfl, -⟩ := h
  have hnI : (n : Int) ≤ 1099511627776 := by omega
  clear hM hn
  go_enter Tryd.func14, Tryd.ntmps14
  go_wp2_with fail
  refine HC.out.mono ?_
  rintro e w2 ⟨⟨r, rfl, h1, h2⟩, hf2⟩
  go_wp2_with fail
  go_ret
  exact ⟨⟨_, rfl⟩, hf2⟩
end
section
open Go.RowKit

theorem tmod_emod (n m : Int) (hm : 0 < m) : (n % m = if n.tmod m < 0 then n.tmod m + m else n.tmod m) ∧ -m < n.tmod m := by
  have h1 := Int.tmod_eq_emod (a := n) (b := m)
  have h2 := Int.emod_nonneg n (show m ≠ 0 by omega)
  have h3 := Int.emod_lt_of_pos n hm
  have hna : (m.natAbs : Int) = m := by omega
  by_cases hd : 0 ≤ n ∨ m ∣ n
  · rw [if_pos hd] at h1
    have h4 : n.tmod m = n % m := by simpa using h1
    rw [h4]
    rw [if_neg (by omega)]
    exact ⟨rfl, by omega⟩
  · rw [if_neg hd, hna] at h1
    have hpos : n % m ≠ 0 := fun e => hd (.inr (Int.dvd_of_emod_eq_zero e))
    rw [h1, if_pos (by omega)]
    exact ⟨by omega, by omega⟩

theorem number_any (n m : Int) (w : World) (hm : 0 < m) (hm2 : m < 4611686018427387904) (hn1 : -9223372036854775808 ≤ n) (hn2 : n ≤ 9223372036854775807) :
    Calls Tryd.prog 10 #[.int .i64 n, .int .i64 m] w fun e w' => e = .returned (.int .i64 (n % m)) ∧ w = w' := by
  obtain ⟨h1, b2⟩ := tmod_emod n m hm
  have b1 : n.tmod m < m := Int.tmod_lt_of_pos n hm
  have hm0 : (m == 0) = false := by rw [beq_eq_false_iff_ne]; omega
  have hm1 : (m == -1) = false := by rw [beq_eq_false_iff_ne]; omega
  have H1 := hid h1; clear h1
  by_cases h : n.tmod m < 0
  · go_enter Tryd.func10, Tryd.ntmps10
    go_wp2
    go_ret
    exact ⟨ret_int (by rw [H1.out, if_pos h]), rfl⟩
  · go_enter Tryd.func10, Tryd.ntmps10
    go_wp2
    go_ret
    exact ⟨ret_int (by rw [H1.out, if_neg (by omega)]), rfl⟩
end
section
open Go.RowKit

theorem field_code (c : Int) (p : Bool) (l : Int) (w : World) : (Instr.field 36 (.agg #[.int .i64 c, .bool p, .int .i64 l, .int .i64 0, .int .i64 0, .string ⟨#[]⟩, .slice none 0 0]) 0).run Tryd.prog w = .ok (.int .i64 c) w := by kernel_rfl
set_option maxRecDepth 100000 in
theorem wprogram_any (l : List Nd) (hM : szL l ≤ 1048576) (n : Nat) (hn : n ≤ 1099511627776) (D : Nat → Prop) (w : World) (v : Value) (h : NL D w l v) :
    Calls Tryd.prog 23 #[v, .int .i64 n] w fun e w' => (∃ b : Bool, e = .returned (.bool b) ∧ (b = true → (pValid l 7).c = 0)) ∧ Fr (fun _ => False) w w' := by
  have HN := hid (wNodes_any l (by omega) n hn D w v h)
  have HV := hid (fun (w2 : World) (hf : Fr (fun _ => False) w w2) => dvalid_any l (by omega) D w2 v (h.frame hf fun _ _ => not_false))
  obtain ⟨a, cap, us, rfl, -⟩ := h
  have hnI : (n : Int) ≤ 1099511627776 := by omega
  clear hM hn
  obtain ⟨pv, hpv⟩ : ∃ pv, pValid l 7 = pv := ⟨_, rfl⟩
  rw [hpv] at HV ⊢
  clear hpv
  obtain ⟨fc, fp, fl⟩ := pv
  unfold faultF faultV at HV
  simp only at HV ⊢
  go_enter Tryd.func23, Tryd.ntmps23
  go_wp2_with fail
  refine HN.out.mono ?_
  rintro e w2 ⟨⟨b, rfl⟩, hf2⟩
  have HF2 := hid hf2
  clear hf2
  cases b
  · go_wp2_with fail
    go_ret
    exact ⟨⟨false, rfl, fun h => by cases h⟩, HF2.out⟩
  · go_wp2_with fail
    refine (HV.out w2 HF2.out).mono ?_
    rintro e w3 ⟨rfl, hf3⟩
    have HF3 := hid (HF2.out.trans' hf3)
    have hfd := field_code fc fp fl w3
    clear hf3
    go_wp2_with fail
    go_ret
    exact ⟨⟨_, rfl, fun h => by simp at h; omega⟩, HF3.out⟩

mutual
theorem cnt_strip : ∀ (x : Nd), x.strip.cnt = x.cnt
  | .mk op ln s v l => by rw [Nd.strip, Nd.cnt, Nd.cnt, cntL_strip l]
theorem cntL_strip : ∀ (l : List Nd), cntL (stripL l) = cntL l
  | [] => by rw [stripL]
  | x :: r => by rw [stripL, cntL, cntL, cnt_strip x, cntL_strip r]
end
mutual
theorem dep_strip : ∀ (x : Nd), x.strip.dep = x.dep
  | .mk op ln s v l => by rw [Nd.strip, Nd.dep, Nd.dep, depL_strip l]
theorem depL_strip : ∀ (l : List Nd), depL (stripL l) = depL l
  | [] => by rw [stripL]
  | x :: r => by rw [stripL, depL, depL, dep_strip x, depL_strip r]
end
theorem own_strip (x : Nd) (role : Int) (lp : Bool) : pOwn x.strip role lp = pOwn x role lp := by
  obtain ⟨op, ln, s, v, l⟩ := x
  have h1 : ∀ (ln : Int) (l : List Nd), pOwn (.mk op ln s v l) role lp = if ownBad (fair1 (pStands op role) lp op && fairV op v) (pCounts op l.length) (pNamed op).1 s.toList.isEmpty then 103 else if ownBad2 (pNamed op).1 (pName s) (pNamed op).2 s.toList.isEmpty then 106 else 0 := fun _ _ => rfl
  rw [Nd.strip, h1, h1, stripL_length]
mutual
theorem walk_strip : ∀ (x : Nd) (role : Int) (lp : Bool), (pWalk x.strip role lp).1 = (pWalk x role lp).1
  | .mk op ln s v l, role, lp => by
    have ho := own_strip (.mk op ln s v l) role lp
    rw [Nd.strip] at ho ⊢
    rw [pWalk, pWalk, ho, stripL_length]
    split
    · exact walkL_strip l _ _ _ _ _
    · rfl
theorem walkL_strip : ∀ (l : List Nd) (op role : Int) (lp : Bool) (R : List Int) (i : Nat), (pWalkL op role lp R i (stripL l)).1 = (pWalkL op role lp R i l).1
  | [], op, role, lp, R, i => by rw [stripL]
  | y :: r, op, role, lp, R, i => by
    rw [stripL, pWalkL_cons, pWalkL_cons]
    have h1 := walk_strip y (rW role op i (R.getD i 0)) (inW op lp (rW role op i (R.getD i 0)))
    rw [h1]
    split
    · exact walkL_strip r _ _ _ _ _
    · exact h1
end
theorem vals_strip (role : Int) : ∀ (l : List Nd), (pVals role (stripL l)).1 = (pVals role l).1
  | [] => by rw [stripL]
  | y :: r => by
    rw [stripL, pVals, pVals, walk_strip]
    split
    · exact vals_strip role r
    · exact walk_strip y role false
theorem valid_strip (l : List Nd) (role : Int) : (pValid (stripL l) role).c = (pValid l role).c := by
  unfold pValid
  rw [cntL_strip, depL_strip]
  split
  · rfl
  split
  · rfl
  have h := vals_strip role l
  unfold fltAt
  rw [h]
  split
  · rfl
  · rfl
theorem valid_same {l m : List Nd} (role : Int) (h : stripL l = stripL m) (hc : (pValid l role).c = 0) : pValid m role = ⟨0, false, 0⟩ := by
  have h1 : (pValid m role).c = 0 := by rw [← valid_strip, ← h, valid_strip, hc]
  unfold pValid at h1 ⊢
  split
  · rename_i h2
    rw [if_pos h2] at h1
    cases h1
  rename_i h2
  rw [if_neg h2] at h1
  split
  · rename_i h3
    rw [if_pos h3] at h1
    cases h1
  rename_i h3
  rw [if_neg h3] at h1
  unfold fltAt at h1 ⊢
  split
  · rfl
  · rename_i h4
    rw [if_neg h4] at h1
    exact absurd h1 h4
theorem stripL_set (l : List Nd) (k : Nat) (x y : Nd) (hk : l[k]? = some x) (h : y.strip = x.strip) : stripL (l.set k y) = stripL l := by
  rw [stripL_map, stripL_map, List.map_set, h]
  refine List.ext_getElem? fun i => ?_
  by_cases hi : k = i
  · subst hi
    rw [List.getElem?_map, hk]
    have := (List.getElem?_eq_some_iff.1 hk).1
    rw [List.getElem?_set_self (by simpa using this)]
    rfl
  · rw [List.getElem?_set_ne hi]
theorem stripL_set_ne (l m : List Nd) (k : Nat) (x y : Nd) (hk : l[k]? = some x) (hm : m[k]? = some y) (h : y.strip ≠ x.strip) : stripL l ≠ stripL m := fun e => by
  rw [stripL_map, stripL_map] at e
  have h1 := congrArg (fun z => z[k]?) e
  simp only [List.getElem?_map, hk, hm, Option.map_some, Option.some.injEq] at h1
  exact h h1.symm

theorem own_setCell8 {w : World} {base e g cap n : Nat} {xs : List Value} (h : w.ownsRow base e 8 (.slice (some ⟨g, 0, none⟩) n cap) n xs) (j : Nat) (u : Value) (hj : j < n * 8) : (w.setCell ⟨g, j, none⟩ u).ownsRow base e 8 (.slice (some ⟨g, 0, none⟩) n cap) n (xs.set j u) := by
  refine ⟨by simpa using h.1, .inr ?_⟩
  rcases h.2 with ⟨e, _⟩ | ⟨g', cap', cur, e, hb, hg, h1, h2, h3, h4⟩
  · cases e
  · simp only [Value.slice.injEq, Option.some.injEq, Addr.mk.injEq] at e
    obtain ⟨⟨rfl, _⟩, _, rfl⟩ := e
    refine ⟨g, cap, cur.setIfInBounds j u, rfl, hb, setCell_row j u hg, h1, h2, by simpa using h3, ?_⟩
    rw [← h4, Array.toList_setIfInBounds, List.take_set]
/-- One cell of one node of a copy is set. -/
theorem COwn.set {base g n cap : Nat} {w : World} {l : List Nd} (h : COwn base w l (.slice (some ⟨g, 0, none⟩) n cap)) (hn : n = l.length) {k : Nat} {x : Nd} (hk : l[k]? = some x) (j : Nat) (hj : j < 6) (val : Value) (x' : Nd) (hl : x'.l = x.l) (hv : x'.v.l = x.v.l)
    (hx' : ∀ (D : Nat → Prop) (w : World) (u : Array Value), NIn D w x u → NIn D w x' (u.setIfInBounds j val)) : COwn base (w.setCell ⟨g, k * 8 + j, none⟩ val) (l.set k x') (.slice (some ⟨g, 0, none⟩) n cap) := by
  obtain ⟨xs, ho, hx, hr⟩ := h
  have hkl := (List.getElem?_eq_some_iff.1 hk).1
  have hlen : xs.length = l.length * 8 := ho.1
  have hf : Fr (fun q => q = g) w (w.setCell ⟨g, k * 8 + j, none⟩ val) := (Fr.refl (fun q => q = g) w).setCell (p := ⟨g, k * 8 + j, none⟩) (.inl rfl) val
  subst hn
  obtain ⟨lo, hlo, hlm, hr⟩ := hr
  refine ⟨xs.set (k * 8 + j) val, ?_, fun i y hi => ?_, lo, hlo, by rw [List.length_set]; exact Nat.le_trans hlm hf.size, fun i y hi => ?_⟩
  · have := own_setCell8 ho (k * 8 + j) val (by omega)
    simpa using this
  · have hfr : ∀ {y : Nd} {u : Array Value}, NIn (fun b => base ≤ b ∧ b < w.heap.size ∧ (Value.slice (some ⟨g, 0, none⟩) l.length cap).ownBlock ≠ some b ∧ Soft w b) w y u → NIn (fun b => base ≤ b ∧ b < (w.setCell ⟨g, k * 8 + j, none⟩ val).heap.size ∧ (Value.slice (some ⟨g, 0, none⟩) l.length cap).ownBlock ≠ some b ∧ Soft (w.setCell ⟨g, k * 8 + j, none⟩ val) b) (w.setCell ⟨g, k * 8 + j, none⟩ val) y u := fun h =>
      (h.frame hf fun b hb e => hb.2.2.1 (by rw [e]; rfl)).mono fun b _ hb => ⟨hb.1, Nat.lt_of_lt_of_le hb.2.1 hf.size, hb.2.2.1, hf.soft hb.2.1 (fun e => hb.2.2.1 (by rw [e]; rfl)) hb.2.2.2⟩
    by_cases hik : i = k
    · subst hik
      rw [List.getElem?_set_self hkl] at hi
      obtain rfl := Option.some.inj hi
      obtain ⟨u, hu, h8, hc⟩ := hx i x hk
      refine ⟨u.setIfInBounds j val, hx' _ _ _ (hfr hu), by simpa using h8, fun q hq => ?_⟩
      by_cases hqj : q = j
      · subst hqj
        rw [List.getElem?_set_self (by omega)]
        simp [Array.getElem?_setIfInBounds, h8, hq]
      · rw [List.getElem?_set_ne (by omega), hc q hq, Array.getElem?_setIfInBounds, if_neg (by omega)]
    · rw [List.getElem?_set_ne (fun e => hik e.symm)] at hi
      obtain ⟨u, hu, h8, hc⟩ := hx i y hi
      refine ⟨u, hfr hu, h8, fun q hq => ?_⟩
      rw [List.getElem?_set_ne (by omega)]
      exact hc q hq
  · have e : ∀ q, 6 ≤ q → q < 8 → (xs.set (k * 8 + j) val).getD (i * 8 + q) undef = xs.getD (i * 8 + q) undef := fun q hq1 hq2 => by
      rw [List.getD_eq_getElem?_getD, List.getD_eq_getElem?_getD, List.getElem?_set_ne (by omega)]
    rw [e 6 (by decide) (by decide), e 7 (by decide) (by decide)]
    by_cases hik : i = k
    · subst hik
      rw [List.getElem?_set_self hkl] at hi
      obtain rfl := Option.some.inj hi
      have h1 := (hr i x hk).frame hf fun b hb e => hb.1 (by rw [e]; rfl)
      unfold NodeAt at h1 ⊢
      rw [hl, hv]
      exact h1
    · rw [List.getElem?_set_ne (fun e => hik e.symm)] at hi
      exact (hr i y hi).frame hf fun b hb e => hb.1 (by rw [e]; rfl)
/-- The cells of one node of a copy. -/
theorem COwn.cells {base g n cap : Nat} {w : World} {l : List Nd} (h : COwn base w l (.slice (some ⟨g, 0, none⟩) n cap)) {k : Nat} {x : Nd} (hk : l[k]? = some x) :
    ∃ va c1 a' c', (∀ j, j < 8 → w.cell? ⟨g, k * 8 + j, none⟩ = (#[.int .i64 x.op, .int .i64 x.ln, .string x.s, .int .i64 x.v.k, .int .i64 x.v.n, .string x.v.s, .slice va x.v.l.length c1, .slice a' x.l.length c'] : Array Value)[j]?) ∧ (∀ i, w.frozen? ⟨g, i, none⟩ = false) := by
  obtain ⟨xs, ho, hx, -⟩ := h
  have hkl := (List.getElem?_eq_some_iff.1 hk).1
  have hlen : xs.length = l.length * 8 := ho.1
  obtain ⟨u, hu, h8, hc⟩ := hx k x hk
  obtain ⟨va', la', rfl, ⟨va, c1, us1, rfl, -⟩, ⟨a', c', us2, rfl, -⟩⟩ := hu.open
  have hnn : n = l.length := by
    have := ho.1
    rcases ho.2 with ⟨e, h0⟩ | ⟨g', cap', cur, e, hb, hg, h1, h2, h3, h4⟩
    · cases e
    · simp only [Value.slice.injEq] at e
      exact e.2.1
  rcases own_heap ho with ⟨e, -, -⟩ | ⟨g', cap', e, hb, hg, hce⟩
  · cases e
  · simp only [Value.slice.injEq, Option.some.injEq, Addr.mk.injEq] at e
    obtain ⟨⟨rfl, -⟩, -, rfl⟩ := e
    refine ⟨va, c1, a', c', fun j hj => ?_, ?_⟩
    · rw [hce (k * 8 + j) (by omega)]
      exact hc j hj
    · rcases ho.2 with ⟨e, h0⟩ | ⟨g', cap', cur, e, hb, hg, h1, h2, h3, h4⟩
      · cases e
      · simp only [Value.slice.injEq, Option.some.injEq, Addr.mk.injEq] at e
        obtain ⟨⟨rfl, -⟩, -, rfl⟩ := e
        exact fun i => frozen_of_row _ _ i _ _ hg
end
section
open Go.RowKit

theorem rows_nl {D : Nat → Prop} {e base : Nat} {w : World} {l : List Nd} {v : Value} {xs : List Value} (ho : w.ownsRow base e 8 v l.length xs) (hd : ∀ r, v.ownBlock = some r → D r)
    (hx : ∀ i x, l[i]? = some x → ∃ u, NIn D w x u ∧ u.size = 8 ∧ ∀ j, j < 8 → xs[i * 8 + j]? = u[j]?) : NL D w l v := by
  obtain ⟨us, hus⟩ : ∃ us : Nat → Array Value, ∀ i x, l[i]? = some x → NIn D w x (us i) ∧ (us i).size = 8 ∧ ∀ j, j < 8 → xs[i * 8 + j]? = (us i)[j]? := by
    classical
    refine ⟨fun i => if h : ∃ u, ∀ x, l[i]? = some x → NIn D w x u ∧ u.size = 8 ∧ ∀ j, j < 8 → xs[i * 8 + j]? = u[j]? then h.choose else #[], fun i x hi => ?_⟩
    have h : ∃ u, ∀ x, l[i]? = some x → NIn D w x u ∧ u.size = 8 ∧ ∀ j, j < 8 → xs[i * 8 + j]? = u[j]? := by
      obtain ⟨u, h1, h2⟩ := hx i x hi
      exact ⟨u, fun x' hx' => by rw [hi] at hx'; obtain rfl := Option.some.inj hx'; exact ⟨h1, h2⟩⟩
    simp only [dif_pos h]
    exact h.choose_spec x hi
  rcases ho.2 with ⟨rfl, h0⟩ | ⟨g, cap, cur, rfl, hb, hg, h1, h2, h3, ht⟩
  · exact ⟨none, 0, us, by rw [h0], by omega, by simp, fun _ => rfl, fun i hi => by omega, fun i x hi => (hus i x hi).1⟩
  · refine ⟨some ⟨g, 0, none⟩, cap, us, rfl, h1, h2, (fun h => by cases h), fun i hi => ?_, fun i x hi => (hus i x hi).1⟩
    obtain ⟨_, h4, hj⟩ := hus i _ (List.getElem?_eq_getElem hi)
    refine ⟨g, 0, rfl, hd g rfl, h4, fun j hj4 => ?_⟩
    rw [← hj j hj4]
    have hc := ho.cells (g := g) rfl
    have hlen : xs.length = l.length * 8 := ho.1
    have hlt : i * 8 + j < xs.length := by omega
    have h5 := hc (i * 8 + j) _ (List.getElem?_eq_getElem hlt)
    have : (⟨g, 0, none⟩ : Addr).add (i * 8 + j) = ⟨g, 0 + i * 8 + j, none⟩ := by unfold Addr.add; split <;> simp_all [Nat.add_assoc]
    rw [← this, h5, List.getElem?_eq_getElem hlt]
theorem NOwnX.nl {A : Nat → Prop} {base : Nat} {w : World} {l : List Nd} {v : Value} (h : NOwnX A base w l v) : NL A w l v := by
  obtain ⟨ys, ho, hr, hx⟩ := h
  refine rows_nl ho hr fun i x hi => ?_
  obtain ⟨u, hv, r⟩ := hx i x hi
  exact ⟨u, hv.mono fun k _ hk => hk.2.2.2.1, r⟩
/-- The empty block. -/
def nd52 : Nd := .mk 52 0 ⟨#[]⟩ (.mk 0 0 ⟨#[]⟩ []) []
theorem lo_le {lo : Nat → Nat} (h : ∀ i, lo i ≤ lo (i + 1)) {i j : Nat} (hij : i ≤ j) : lo i ≤ lo j := by
  induction hij with
  | refl => exact Nat.le_refl _
  | step _ ih => exact Nat.le_trans ih (h _)
/-- One node's row of a copy is longer by the empty block. -/
theorem COwn.push {base g n cap : Nat} {w : World} {m : List Nd} (h : COwn base w m (.slice (some ⟨g, 0, none⟩) n cap)) {k : Nat} {x : Nd} {cv : Value} (hk : m[k]? = some x) (hc : w.cell? ⟨g, k * 8 + 7, none⟩ = some cv) :
    ∃ xs ys, w.ownsRow base 29 8 (.slice (some ⟨g, 0, none⟩) n cap) n xs ∧ w.ownsRow base 29 8 cv x.l.length ys ∧ cv.ownBlock ≠ some g ∧ n = m.length ∧
      ∀ (w8 : World) (g2 cap2 : Nat), Fr (fun q => q = g ∨ some q = cv.ownBlock) w w8 → w8.ownsRow base 29 8 (.slice (some ⟨g, 0, none⟩) n cap) n (xs.set (k * 8 + 7) (.slice (some ⟨g2, 0, none⟩) (x.l.length + 1) cap2)) →
        w8.ownsRow base 29 8 (.slice (some ⟨g2, 0, none⟩) (x.l.length + 1) cap2) (x.l.length + 1) (ys ++ [.int .i64 52, .int .i64 0, .string ⟨#[]⟩, .int .i64 0, .int .i64 0, .string ⟨#[]⟩, .slice none 0 0, .slice none 0 0]) →
        NL (fun _ => True) w8 (m.set k (.mk x.op x.ln x.s x.v (x.l ++ [nd52]))) (.slice (some ⟨g, 0, none⟩) n cap) := by
  obtain ⟨xs, ho, hx, lo, hlo, hlm, hr⟩ := h
  have hkl := (List.getElem?_eq_some_iff.1 hk).1
  have hlen : xs.length = m.length * 8 := ho.1
  have hnn : n = m.length := by
    rcases ho.2 with ⟨e, h0⟩ | ⟨g', cap', cur, e, hb, hg, h1, h2, h3, h4⟩
    · cases e
    · simp only [Value.slice.injEq] at e
      exact e.2.1
  have hxc : xs[k * 8 + 7]? = some cv := by
    rcases own_heap ho with ⟨e, -, -⟩ | ⟨g', cap', e, hb, hg, hce⟩
    · cases e
    · simp only [Value.slice.injEq, Option.some.injEq, Addr.mk.injEq] at e
      obtain ⟨⟨rfl, -⟩, -, rfl⟩ := e
      rw [← hce (k * 8 + 7) (by omega), hc]
  have hkat := hr k x hk
  rw [show xs.getD (k * 8 + 7) undef = cv by rw [List.getD_eq_getElem?_getD, hxc]; rfl] at hkat
  obtain ⟨⟨ys, hyo, hyr, hyx⟩, hkv⟩ := hkat
  have hcg : cv.ownBlock ≠ some g := fun e => (hyr g e).1 rfl
  refine ⟨xs, ys, by rw [← hnn] at ho; exact ho, hyo, hcg, hnn, fun w8 g2 cap2 hf hP hC => ?_⟩
  have hylen : ys.length = x.l.length * 8 := hyo.1
  have hl8 : (m.set k (.mk x.op x.ln x.s x.v (x.l ++ [nd52]))).length = n := by rw [List.length_set, hnn]
  refine rows_nl (xs := xs.set (k * 8 + 7) (.slice (some ⟨g2, 0, none⟩) (x.l.length + 1) cap2)) (by rw [hl8]; exact hP) (fun _ _ => trivial) fun i y hi => ?_
  by_cases hik : i = k
  · subst hik
    rw [List.getElem?_set_self hkl] at hi
    obtain rfl := Option.some.inj hi
    obtain ⟨u, hu, h8, hcu⟩ := hx i x hk
    obtain ⟨va', la', rfl, -, -⟩ := hu.open
    have e6 : xs[i * 8 + 6]? = some va' := hcu 6 (by decide)
    rw [show xs.getD (i * 8 + 6) undef = va' by rw [List.getD_eq_getElem?_getD, e6]; rfl] at hkv
    have hv8 : VL (fun _ => True) w8 x.v.l va' := (hkv.frame hf fun b hb e => e.elim (fun e => hb.2.1.1 (by rw [e]; rfl)) (fun e => hb.2.2 e.symm)).mono fun _ _ _ => trivial
    have hlc : (x.l ++ [nd52]).length = x.l.length + 1 := by simp
    have hn8 : NL (fun _ => True) w8 (x.l ++ [nd52]) (.slice (some ⟨g2, 0, none⟩) (x.l.length + 1) cap2) := by
      refine rows_nl (xs := ys ++ [.int .i64 52, .int .i64 0, .string ⟨#[]⟩, .int .i64 0, .int .i64 0, .string ⟨#[]⟩, .slice none 0 0, .slice none 0 0]) (by rw [hlc]; exact hC) (fun _ _ => trivial) fun q z hz => ?_
      by_cases hql : q < x.l.length
      · rw [List.getElem?_append_left hql] at hz
        obtain ⟨u, hu, h8, hcq⟩ := hyx q z hz
        refine ⟨u, (hu.frame hf fun b hb e => e.elim (fun e => hb.2.2.2.1.1 (by rw [e]; rfl)) (fun e => hb.2.2.1 e.symm)).mono fun _ _ _ => trivial, h8, fun j hj => ?_⟩
        rw [List.getElem?_append_left (by omega)]
        exact hcq j hj
      · have hqq := (List.getElem?_eq_some_iff.1 hz).1
        have : q = x.l.length := by simp at hqq; omega
        subst this
        rw [List.getElem?_append_right (Nat.le_refl _)] at hz
        simp at hz
        subst hz
        refine ⟨#[.int .i64 52, .int .i64 0, .string ⟨#[]⟩, .int .i64 0, .int .i64 0, .string ⟨#[]⟩, .slice none 0 0, .slice none 0 0], (NL.nil _ _).close 52 0 ⟨#[]⟩ (.mk 0 0 ⟨#[]⟩ []) (VL.nil _ _), rfl, fun j hj => ?_⟩
        rw [List.getElem?_append_right (by omega), show x.l.length * 8 + j - ys.length = j by omega]
        simp
    refine ⟨#[.int .i64 x.op, .int .i64 x.ln, .string x.s, .int .i64 x.v.k, .int .i64 x.v.n, .string x.v.s, va', .slice (some ⟨g2, 0, none⟩) (x.l.length + 1) cap2], ?_, rfl, fun j hj => ?_⟩
    · exact hn8.close x.op x.ln x.s x.v hv8
    · by_cases hj7 : j = 7
      · subst hj7
        rw [List.getElem?_set_self (by omega)]
        rfl
      · rw [List.getElem?_set_ne (by omega), hcu j hj]
        have : j = 0 ∨ j = 1 ∨ j = 2 ∨ j = 3 ∨ j = 4 ∨ j = 5 ∨ j = 6 := by omega
        rcases this with rfl | rfl | rfl | rfl | rfl | rfl | rfl <;> rfl
  · rw [List.getElem?_set_ne (fun e => hik e.symm)] at hi
    obtain ⟨u, hu, h8, hcu⟩ := hx i y hi
    obtain ⟨va', la', rfl, -, -⟩ := hu.open
    have e6 : xs[i * 8 + 6]? = some va' := hcu 6 (by decide)
    have e7 : xs[i * 8 + 7]? = some la' := hcu 7 (by decide)
    have hia := hr i y hi
    rw [show xs.getD (i * 8 + 6) undef = va' by rw [List.getD_eq_getElem?_getD, e6]; rfl, show xs.getD (i * 8 + 7) undef = la' by rw [List.getD_eq_getElem?_getD, e7]; rfl] at hia
    have hS : ∀ b, ((Value.slice (some ⟨g, 0, none⟩) m.length cap).ownBlock ≠ some b ∧ lo i ≤ b ∧ b < lo (i + 1)) → ¬ (b = g ∨ some b = cv.ownBlock) := fun b hb e => by
      rcases e with e | e
      · exact hb.1 (by rw [e]; rfl)
      · have h1 := hyr b e.symm
        rcases Nat.lt_or_gt_of_ne hik with h2 | h2
        · have := lo_le hlo (show i + 1 ≤ k by omega); omega
        · have := lo_le hlo (show k + 1 ≤ i by omega); omega
    subst hnn
    have hi8 := hia.frame hf hS
    have hv8 : VL (fun _ => True) w8 y.v.l va' := hi8.2.mono fun _ _ _ => trivial
    have hn8 : NL (fun _ => True) w8 y.l la' := hi8.1.nl.mono fun _ _ _ => trivial
    refine ⟨_, ?_, h8, fun j hj => ?_⟩
    · have := hn8.close y.op y.ln y.s y.v hv8
      have e2 : y = .mk y.op y.ln y.s y.v y.l := by cases y; rfl
      rw [← e2] at this
      exact this
    · rw [List.getElem?_set_ne (by omega)]
      exact hcu j hj
theorem own_cells8 {w : World} {base e g n cap : Nat} {xs : List Value} (h : w.ownsRow base e 8 (.slice (some ⟨g, 0, none⟩) n cap) n xs) : (∀ i, i < n * 8 → w.cell? ⟨g, i, none⟩ = xs[i]?) ∧ (∀ i, w.frozen? ⟨g, i, none⟩ = false) := by
  have hlen : xs.length = n * 8 := h.1
  refine ⟨fun i hi => ?_, ?_⟩
  · rcases own_heap h with ⟨e, -, -⟩ | ⟨g', cap', e, hb, hg, hce⟩
    · cases e
    · simp only [Value.slice.injEq, Option.some.injEq, Addr.mk.injEq] at e
      obtain ⟨⟨rfl, -⟩, -, rfl⟩ := e
      exact hce i (by omega)
  · rcases h.2 with ⟨e, h0⟩ | ⟨g', cap', cur, e, hb, hg, h1, h2, h3, h4⟩
    · cases e
    · simp only [Value.slice.injEq, Option.some.injEq, Addr.mk.injEq] at e
      obtain ⟨⟨rfl, -⟩, -, rfl⟩ := e
      exact fun i => frozen_of_row _ _ i _ _ hg
theorem put8_list {ys : List Value} {L : Nat} (hl : ys.length = L * 8) (b0 b1 b2 b3 b4 b5 b6 b7 a0 a1 a2 a3 a4 a5 a6 a7 : Value) :
    ((((((((ys ++ [b0, b1, b2, b3, b4, b5, b6, b7]).set (L * 8 + 0) a0).set (L * 8 + 1) a1).set (L * 8 + 2) a2).set (L * 8 + 3) a3).set (L * 8 + 4) a4).set (L * 8 + 5) a5).set (L * 8 + 6) a6).set (L * 8 + 7) a7 = ys ++ [a0, a1, a2, a3, a4, a5, a6, a7] := by
  have e : ∀ (us : List Value) (j : Nat) (a : Value), (ys ++ us).set (L * 8 + j) a = ys ++ us.set j a := fun us j a => by
    rw [List.set_append_right _ _ (by omega), show L * 8 + j - ys.length = j by omega]
  rw [e, e, e, e, e, e, e, e]
  rfl
/-- A node is stored at the end of a row. -/
theorem own_put8 {w : World} {base e g L cap : Nat} {ys : List Value} (hl : ys.length = L * 8) (b0 b1 b2 b3 b4 b5 b6 b7 a0 a1 a2 a3 a4 a5 a6 a7 : Value)
    (h : w.ownsRow base e 8 (.slice (some ⟨g, 0, none⟩) (L + 1) cap) (L + 1) (ys ++ [b0, b1, b2, b3, b4, b5, b6, b7])) :
    (((((((((w.setCell ⟨g, L * 8 + 0, none⟩ a0).setCell ⟨g, L * 8 + 1, none⟩ a1).setCell ⟨g, L * 8 + 2, none⟩ a2).setCell ⟨g, L * 8 + 3, none⟩ a3).setCell ⟨g, L * 8 + 4, none⟩ a4).setCell ⟨g, L * 8 + 5, none⟩ a5).setCell ⟨g, L * 8 + 6, none⟩ a6).setCell ⟨g, L * 8 + 7, none⟩ a7)).ownsRow base e 8 (.slice (some ⟨g, 0, none⟩) (L + 1) cap) (L + 1) (ys ++ [a0, a1, a2, a3, a4, a5, a6, a7]) := by
  have := own_setCell8 (own_setCell8 (own_setCell8 (own_setCell8 (own_setCell8 (own_setCell8 (own_setCell8 (own_setCell8 h (L * 8 + 0) a0 (by omega)) (L * 8 + 1) a1 (by omega)) (L * 8 + 2) a2 (by omega)) (L * 8 + 3) a3 (by omega)) (L * 8 + 4) a4 (by omega)) (L * 8 + 5) a5 (by omega)) (L * 8 + 6) a6 (by omega)) (L * 8 + 7) a7 (by omega)
  rw [put8_list hl] at this
  exact this
theorem fr_put8 (w : World) (g L : Nat) (a0 a1 a2 a3 a4 a5 a6 a7 : Value) : Fr (fun q => q = g) w (((((((((w.setCell ⟨g, L * 8 + 0, none⟩ a0).setCell ⟨g, L * 8 + 1, none⟩ a1).setCell ⟨g, L * 8 + 2, none⟩ a2).setCell ⟨g, L * 8 + 3, none⟩ a3).setCell ⟨g, L * 8 + 4, none⟩ a4).setCell ⟨g, L * 8 + 5, none⟩ a5).setCell ⟨g, L * 8 + 6, none⟩ a6).setCell ⟨g, L * 8 + 7, none⟩ a7)) :=
  ((((((((Fr.refl (fun q => q = g) w).setCell (p := ⟨g, L * 8 + 0, none⟩) (.inl rfl) a0).setCell (p := ⟨g, L * 8 + 1, none⟩) (.inl rfl) a1).setCell (p := ⟨g, L * 8 + 2, none⟩) (.inl rfl) a2).setCell (p := ⟨g, L * 8 + 3, none⟩) (.inl rfl) a3).setCell (p := ⟨g, L * 8 + 4, none⟩) (.inl rfl) a4).setCell (p := ⟨g, L * 8 + 5, none⟩) (.inl rfl) a5).setCell (p := ⟨g, L * 8 + 6, none⟩) (.inl rfl) a6).setCell (p := ⟨g, L * 8 + 7, none⟩) (.inl rfl) a7
end
section
open Go.RowKit

theorem xor1_ne (a : Int) : bits BinOp.xor IntKind.i64 a 1 ≠ a := fun e => by
  have h0 : bits BinOp.xor IntKind.i64 a 1 = IntKind.i64.wrap ((BitVec.ofInt 64 a ^^^ BitVec.ofInt 64 1).toNat : Int) := rfl
  have h1 : ∀ y : BitVec 64, BitVec.ofInt 64 (IntKind.i64.wrap (y.toNat : Int)) = y := fun y => by
    apply BitVec.eq_of_toNat_eq
    have h := y.isLt
    rw [BitVec.toNat_ofInt, IntKind.wrap_i64]
    have : (2 ^ 64 : Nat) = 18446744073709551616 := by decide
    simp only [this] at *
    omega
  have h2 := congrArg (BitVec.ofInt 64) (h0.symm.trans e)
  rw [h1] at h2
  have h3 := congrArg (fun y : BitVec 64 => y.getLsbD 0) h2
  simp only [BitVec.getLsbD_xor] at h3
  have h4 : (BitVec.ofInt 64 1).getLsbD 0 = true := by decide
  rw [h4] at h3
  cases h5 : (BitVec.ofInt 64 a).getLsbD 0 <;> rw [h5] at h3 <;> cases h3
theorem snoc_ne (s : ByteArray) : s ++ ⟨#[120]⟩ ≠ s := fun e => by
  have h := congrArg ByteArray.size e
  rw [ByteArray.size_append] at h
  have : (⟨#[120]⟩ : ByteArray).size = 1 := rfl
  omega
theorem nin_line {x : Nd} (ln : Int) (D : Nat → Prop) (w : World) (u : Array Value) (h : NIn D w x u) : NIn D w (.mk x.op ln x.s x.v x.l) (u.setIfInBounds 1 (.int .i64 ln)) := by
  obtain ⟨va, la, rfl, h1, h2⟩ := h.open
  exact h2.close x.op ln x.s x.v h1
theorem nin_op {x : Nd} (op : Int) (D : Nat → Prop) (w : World) (u : Array Value) (h : NIn D w x u) : NIn D w (.mk op x.ln x.s x.v x.l) (u.setIfInBounds 0 (.int .i64 op)) := by
  obtain ⟨va, la, rfl, h1, h2⟩ := h.open
  exact h2.close op x.ln x.s x.v h1
theorem nin_s {x : Nd} (s : ByteArray) (D : Nat → Prop) (w : World) (u : Array Value) (h : NIn D w x u) : NIn D w (.mk x.op x.ln s x.v x.l) (u.setIfInBounds 2 (.string s)) := by
  obtain ⟨va, la, rfl, h1, h2⟩ := h.open
  exact h2.close x.op x.ln s x.v h1
theorem COwn.nl {base : Nat} {w : World} {l : List Nd} {v : Value} (h : COwn base w l v) : NL (fun _ => True) w l v := h.own.close.mono fun _ _ _ => trivial
mutual
theorem sz_strip : ∀ (x : Nd), x.strip.sz = x.sz
  | .mk op ln s v l => by rw [Nd.strip, Nd.sz, Nd.sz, szL_strip l]
theorem szL_strip : ∀ (l : List Nd), szL (stripL l) = szL l
  | [] => by rw [stripL]
  | x :: r => by rw [stripL, szL, szL, sz_strip x, szL_strip r]
end
set_option maxRecDepth 100000 in
set_option maxHeartbeats 1000000 in
theorem treeTurned_any (pa : Nat → Addr) (v : Value) (l : List Nd) (at_ what : Int) (w : World) (h : NL (fun _ => True) w l v) (hl : szL l ≤ 1048576) (b1 : -9223372036854775808 ≤ at_) (c1 : at_ ≤ 9223372036854775807) (b2 : -9223372036854775808 ≤ what) (c2 : what ≤ 9223372036854775807) (hE : Sent5 w pa) (hg : 7 ≤ w.heap.size) :
    Calls Tryd.prog 7 #[v, .int .i64 at_, .int .i64 what] w fun e w' => e = .returned (.bool true) ∧ Fr (fun _ => False) w w' := by
  have hlc := Nat.le_trans (len_le_cnt l) (cntL_szL l)
  have HFI := hid (tfirst5_any pa w hE hg)
  have HE := hid (fun (w2 : World) (hf : Fr (fun _ => False) w w2) => hE.frame hf)
  have HG := hid (fun (w2 : World) (hf : Fr (fun _ => False) w w2) => Nat.le_trans hg hf.size)
  have HL := hid (fun (w2 : World) (hf : Fr (fun _ => False) w w2) => h.frame hf fun _ _ => not_false)
  have HLS := hid hl; have HB1 := hid b1; have HC1 := hid c1; have HB2 := hid b2; have HC2 := hid c2
  have hlI : (l.length : Int) ≤ 1048576 := by omega
  obtain ⟨a, cap, us, rfl, -⟩ := h
  clear hE hg hl b1 c1 b2 c2 hlc
  go_enter Tryd.func7, Tryd.ntmps7
  go_wp2_with fail
  refine HFI.out.mono ?_
  rintro e w1 ⟨rfl, hf1⟩
  have HF1 := hid hf1
  clear hf1
  have HPR := hid (wprogram_any l HLS.out 500 (by decide) _ w1 _ (HL.out w1 HF1.out))
  go_wp2_with fail
  refine HPR.out.mono ?_
  rintro e w2 ⟨⟨pb, rfl, hpb⟩, hf2⟩
  have HF2 := hid (HF1.out.trans' hf2)
  clear hf2
  cases pb
  · go_wp2_with fail
    go_ret
    exact ⟨rfl, HF2.out⟩
  have HPV := hid (hpb rfl)
  clear hpb
  by_cases hn0 : l.length = 0
  · have q0 : ((l.length : Int) == 0) = true := by rw [hn0]; rfl
    clear hn0
    go_wp2_with fail
    go_ret
    exact ⟨rfl, HF2.out⟩
  have q0 : ((l.length : Int) == 0) = false := by rw [beq_eq_false_iff_ne]; omega
  have HCL := hid (tclone_any l (by have := HLS.out; omega) _ w2 _ (HL.out w2 HF2.out))
  go_wp2_with fail
  refine HCL.out.mono ?_
  rintro e w4 ⟨v4, rfl, hf4, hco⟩
  have HF4 := hid (HF2.out.trans' hf4)
  clear hf4
  obtain ⟨g, cc, rfl, hgb⟩ : ∃ g cc, v4 = .slice (some ⟨g, 0, none⟩) l.length cc ∧ w2.heap.size ≤ g := by
    obtain ⟨xs, ho, -⟩ := id hco
    rcases own_heap ho with ⟨-, h0, -⟩ | ⟨g, cc, e, hb, -, -⟩
    · exact absurd h0 hn0
    · exact ⟨g, cc, e, hb⟩
  have HGB := hid (show w.heap.size ≤ g from Nat.le_trans HF2.out.size hgb)
  have HCO := hid hco
  clear hco hgb
  obtain ⟨k, hk⟩ : ∃ k : Nat, at_ % (l.length : Int) = k := ⟨(at_ % (l.length : Int)).toNat, by have := Int.emod_nonneg at_ (show (l.length : Int) ≠ 0 by omega); omega⟩
  have hkl : k < l.length := by have := Int.emod_lt_of_pos at_ (show (0 : Int) < l.length by omega); omega
  have HK := hid hk
  have hkI : (k : Int) < l.length := by omega
  obtain ⟨x, hx⟩ : ∃ x, l[k]? = some x := ⟨_, List.getElem?_eq_getElem hkl⟩
  have HX := hid hx
  clear hk
  go_wp2_with fail
  refine (number_any at_ l.length w4 (by omega) (by omega) HB1.out HC1.out).mono ?_
  rintro e w4 ⟨rfl, rfl⟩
  rw [HK.out]
  obtain ⟨va, c1, a', c', hcell, hfz⟩ := HCO.out.cells hx
  have e0 : w4.cell? ⟨g, k * 8, none⟩ = some (.int .i64 x.op) := hcell 0 (by decide)
  have e1 : w4.cell? ⟨g, k * 8 + 1, none⟩ = some (.int .i64 x.ln) := hcell 1 (by decide)
  have e2 : w4.cell? ⟨g, k * 8 + 2, none⟩ = some (.string x.s) := hcell 2 (by decide)
  have e3 : w4.cell? ⟨g, k * 8 + 3, none⟩ = some (.int .i64 x.v.k) := hcell 3 (by decide)
  have e4 : w4.cell? ⟨g, k * 8 + 4, none⟩ = some (.int .i64 x.v.n) := hcell 4 (by decide)
  have e5 : w4.cell? ⟨g, k * 8 + 5, none⟩ = some (.string x.v.s) := hcell 5 (by decide)
  have e6 : w4.cell? ⟨g, k * 8 + 6, none⟩ = some (.slice va x.v.l.length c1) := hcell 6 (by decide)
  have e7 : w4.cell? ⟨g, k * 8 + 7, none⟩ = some (.slice a' x.l.length c') := hcell 7 (by decide)
  clear hcell
  obtain ⟨ln2, hln2⟩ : ∃ z, IntKind.i64.wrap (x.ln + 5) = z := ⟨_, rfl⟩
  go_upto_region 9 with fail
  clear hln2
  have hco5 := HCO.out.set rfl hx 1 (by decide) (.int .i64 ln2) (.mk x.op ln2 x.s x.v x.l) rfl rfl (nin_line ln2)
  have hf5 : Fr (fun q => q = g) w4 (w4.setCell ⟨g, k * 8 + 1, none⟩ (.int .i64 ln2)) := (Fr.refl (fun q => q = g) w4).setCell (p := ⟨g, k * 8 + 1, none⟩) (.inl rfl) (.int .i64 ln2)
  have HF5 := hid (HF4.out.trans hf5 (U := fun _ => False) (fun _ _ h => h) (fun q hq e => by have := HGB.out; omega))
  clear e0 e1 e2 e3 e4 e5 e6 e7 hfz
  generalize hw5 : w4.setCell ⟨g, k * 8 + 1, none⟩ (.int .i64 ln2) = w5 at *
  clear hw5 hf5
  have hst5 : stripL (l.set k (.mk x.op ln2 x.s x.v x.l)) = stripL l := stripL_set l k x _ hx (by rw [Nd.strip_eq, Nd.strip_eq x]; rfl)
  have hll : (l.set k (.mk x.op ln2 x.s x.v x.l)).length = l.length := by simp
  have hx5 : (l.set k (.mk x.op ln2 x.s x.v x.l))[k]? = some (.mk x.op ln2 x.s x.v x.l) := List.getElem?_set_self hkl
  have hsz5 : szL (l.set k (.mk x.op ln2 x.s x.v x.l)) ≤ 1048576 := by rw [← szL_strip, hst5, szL_strip]; exact HLS.out
  generalize hm : l.set k (.mk x.op ln2 x.s x.v x.l) = m at *
  have HST := hid hst5; have HX5 := hid hx5; have HSZ5 := hid hsz5; have HCO5 := hid hco5
  clear hst5 hx5 hsz5 hco5 hx
  have hs1 := tsame_any l m _ _ w5 _ _ (HL.out w5 HF5.out) HCO5.out.nl
  rw [sameL_eq.2 HST.out.symm] at hs1
  have HS1 := hid hs1
  clear hs1
  go_wp2_with fail
  refine HS1.out.mono ?_
  rintro e w6 ⟨rfl, hf6⟩
  have HF6 := hid (HF5.out.trans' hf6)
  have HCO6 := hid (HCO5.out.frame hf6)
  clear hf6
  have htv := tvalid5_any pa m (by have := HSZ5.out; omega) _ w6 _ HCO6.out.nl (HE.out w6 HF6.out) (HG.out w6 HF6.out)
  rw [valid_same 7 HST.out.symm HPV.out] at htv
  have HTV := hid htv
  clear htv
  go_wp2_with fail
  refine HTV.out.mono ?_
  rintro e w7 ⟨v7, rfl, hf7, hv7⟩
  have HF7 := hid (HF6.out.trans' hf7)
  have HCO7 := hid (HCO6.out.frame hf7)
  clear hf7
  obtain ⟨-, ⟨-, -, rfl⟩ | ⟨h, -⟩⟩ := hv7
  rotate_left
  · cases h
  unfold errV
  obtain ⟨cc3, hc3, hc30, hc33⟩ : ∃ cc3, what % 3 = cc3 ∧ 0 ≤ cc3 ∧ cc3 < 3 := ⟨_, rfl, by omega, by omega⟩
  go_wp2_with fail
  refine (number_any what 3 w7 (by decide) (by decide) HB2.out HC2.out).mono ?_
  rintro e w7 ⟨rfl, rfl⟩
  rw [hc3]
  clear hc3
  obtain ⟨vb, d1, b', d', hcell, hfz⟩ := HCO7.out.cells HX5.out
  have f0 : w7.cell? ⟨g, k * 8, none⟩ = some (.int .i64 x.op) := hcell 0 (by decide)
  have f1 : w7.cell? ⟨g, k * 8 + 1, none⟩ = some (.int .i64 ln2) := hcell 1 (by decide)
  have f2 : w7.cell? ⟨g, k * 8 + 2, none⟩ = some (.string x.s) := hcell 2 (by decide)
  have f3 : w7.cell? ⟨g, k * 8 + 3, none⟩ = some (.int .i64 x.v.k) := hcell 3 (by decide)
  have f4 : w7.cell? ⟨g, k * 8 + 4, none⟩ = some (.int .i64 x.v.n) := hcell 4 (by decide)
  have f5 : w7.cell? ⟨g, k * 8 + 5, none⟩ = some (.string x.v.s) := hcell 5 (by decide)
  have f6 : w7.cell? ⟨g, k * 8 + 6, none⟩ = some (.slice vb x.v.l.length d1) := hcell 6 (by decide)
  have f7 : w7.cell? ⟨g, k * 8 + 7, none⟩ = some (.slice b' x.l.length d') := hcell 7 (by decide)
  have hadd : ¬ 9223372036854775807 < x.s.size + 1 := by
    have h1 := HSZ5.out
    have h2 := szL_mem HX5.out
    rw [Nd.sz] at h2
    omega
  have hcase : cc3 = 0 ∨ cc3 = 1 ∨ cc3 = 2 := by omega
  clear hc30 hc33 hcell
  rcases hcase with rfl | rfl | rfl
  · go_upto_region 17 with fail
    have hco8 := HCO7.out.set hll.symm HX5.out 0 (by decide) (.int .i64 (bits BinOp.xor IntKind.i64 x.op 1)) (.mk (bits BinOp.xor IntKind.i64 x.op 1) ln2 x.s x.v x.l) rfl rfl (nin_op _)
    have hf8 : Fr (fun q => q = g) w7 (w7.setCell ⟨g, k * 8, none⟩ (.int .i64 (bits BinOp.xor IntKind.i64 x.op 1))) := (Fr.refl (fun q => q = g) w7).setCell (p := ⟨g, k * 8, none⟩) (.inl rfl) (.int .i64 (bits BinOp.xor IntKind.i64 x.op 1))
    have HF8 := hid (HF7.out.trans hf8 (U := fun _ => False) (fun _ _ h => h) (fun q hq e => by have := HGB.out; omega))
    clear f0 f1 f2 f3 f4 f5 f6 f7 hfz
    generalize hw8 : w7.setCell ⟨g, k * 8, none⟩ (.int .i64 (bits BinOp.xor IntKind.i64 x.op 1)) = w8 at *
    clear hw8 hf8
    have hne : stripL l ≠ stripL (m.set k (.mk (bits BinOp.xor IntKind.i64 x.op 1) ln2 x.s x.v x.l)) := by
      rw [← HST.out]
      exact stripL_set_ne m _ k _ _ HX5.out (List.getElem?_set_self (List.getElem?_eq_some_iff.1 HX5.out).1) (fun e => by rw [Nd.strip, Nd.strip] at e; injection e with e1; exact xor1_ne _ e1)
    have hlm : (m.set k (.mk (bits BinOp.xor IntKind.i64 x.op 1) ln2 x.s x.v x.l)).length = l.length := by simp [hll]
    generalize hm8 : m.set k (.mk (bits BinOp.xor IntKind.i64 x.op 1) ln2 x.s x.v x.l) = m8 at *
    have HNE := hid hne
    have HCO8 := hid hco8
    clear hne hco8 hm8
    have HC8 := hid HCO8.out.nl
    have hs8 := tsame_any l m8 _ _ w8 _ _ (HL.out w8 HF8.out) HC8.out
    rw [sameL_ne HNE.out] at hs8
    have HS8 := hid hs8
    clear hs8
    go_wp2_with fail
    refine HS8.out.mono ?_
    rintro e w9 ⟨rfl, hf9⟩
    have HF9 := hid (HF8.out.trans' hf9)
    have hs9 := tsame_any m8 l _ _ w9 _ _ (HC8.out.frame hf9 fun _ _ => id) (HL.out w9 HF9.out)
    rw [sameL_ne (fun e => HNE.out e.symm)] at hs9
    have HS9 := hid hs9
    clear hs9 hf9
    go_wp2_with fail
    refine HS9.out.mono ?_
    rintro e w10 ⟨rfl, hf10⟩
    have HF10 := hid (HF9.out.trans' hf10)
    clear hf10
    go_wp2_with fail
    go_ret
    exact ⟨rfl, HF10.out⟩
  · go_upto_region 17 with fail
    have hco8 := HCO7.out.set hll.symm HX5.out 2 (by decide) (.string (x.s ++ ⟨#[120]⟩)) (.mk x.op ln2 (x.s ++ ⟨#[120]⟩) x.v x.l) rfl rfl (nin_s _)
    have hf8 : Fr (fun q => q = g) w7 (w7.setCell ⟨g, k * 8 + 2, none⟩ (.string (x.s ++ ⟨#[120]⟩))) := (Fr.refl (fun q => q = g) w7).setCell (p := ⟨g, k * 8 + 2, none⟩) (.inl rfl) (.string (x.s ++ ⟨#[120]⟩))
    have HF8 := hid (HF7.out.trans hf8 (U := fun _ => False) (fun _ _ h => h) (fun q hq e => by have := HGB.out; omega))
    clear f0 f1 f2 f3 f4 f5 f6 f7 hfz
    generalize hw8 : w7.setCell ⟨g, k * 8 + 2, none⟩ (.string (x.s ++ ⟨#[120]⟩)) = w8 at *
    clear hw8 hf8
    have hne : stripL l ≠ stripL (m.set k (.mk x.op ln2 (x.s ++ ⟨#[120]⟩) x.v x.l)) := by
      rw [← HST.out]
      exact stripL_set_ne m _ k _ _ HX5.out (List.getElem?_set_self (List.getElem?_eq_some_iff.1 HX5.out).1) (fun e => by rw [Nd.strip, Nd.strip] at e; injection e with _ _ e1; exact snoc_ne _ e1)
    have hlm : (m.set k (.mk x.op ln2 (x.s ++ ⟨#[120]⟩) x.v x.l)).length = l.length := by simp [hll]
    generalize hm8 : m.set k (.mk x.op ln2 (x.s ++ ⟨#[120]⟩) x.v x.l) = m8 at *
    have HNE := hid hne
    have HCO8 := hid hco8
    clear hne hco8 hm8
    have HC8 := hid HCO8.out.nl
    have hs8 := tsame_any l m8 _ _ w8 _ _ (HL.out w8 HF8.out) HC8.out
    rw [sameL_ne HNE.out] at hs8
    have HS8 := hid hs8
    clear hs8
    go_wp2_with fail
    refine HS8.out.mono ?_
    rintro e w9 ⟨rfl, hf9⟩
    have HF9 := hid (HF8.out.trans' hf9)
    have hs9 := tsame_any m8 l _ _ w9 _ _ (HC8.out.frame hf9 fun _ _ => id) (HL.out w9 HF9.out)
    rw [sameL_ne (fun e => HNE.out e.symm)] at hs9
    have HS9 := hid hs9
    clear hs9 hf9
    go_wp2_with fail
    refine HS9.out.mono ?_
    rintro e w10 ⟨rfl, hf10⟩
    have HF10 := hid (HF9.out.trans' hf10)
    clear hf10
    go_wp2_with fail
    go_ret
    exact ⟨rfl, HF10.out⟩
  · go_upto_region 12 with fail
    have hfd : Fr (fun _ => False) w7 w7.drew := (Fr.refl _ _).drew
    have hcod := HCO7.out.frame hfd
    have d7 : w7.drew.cell? ⟨g, k * 8 + 7, none⟩ = some (.slice b' x.l.length d') := hfd.cell f7 not_false
    have HFD := hid (HF7.out.trans' hfd)
    have dz : ∀ i, w7.drew.frozen? ⟨g, i, none⟩ = false := hfz
    have hgs : g < w7.drew.heap.size := by
      obtain ⟨xs, ho, -⟩ := hcod
      exact (ho.lt g rfl).2
    clear f0 f1 f2 f3 f4 f5 f6 f7 hfz hfd
    have hpush := hcod.push HX5.out d7
    obtain ⟨xs, ys, hpo, hyo, hcg, hnm, hend⟩ := hpush
    have hn1 : x.l.length + 1 ≤ 1099511627776 := by
      have h1 := HSZ5.out
      have h2 := szL_mem HX5.out
      rw [Nd.sz] at h2
      have h3 := Nat.le_trans (len_le_cnt x.l) (cntL_szL x.l)
      omega
    have HN1 := hid hn1; have HB2 := hid (Nat.le_of_lt (Nat.lt_of_le_of_lt (hpo.lt g rfl).1 (hpo.lt g rfl).2))
    have HYB := hid (fun q e => (hyo.lt q e).1)
    have HW2 := hid HF2.out.size
    clear hn1
    have HPO := hid hpo; have HYO := hid (show w7.drew.ownsRow w2.heap.size 29 8 (.slice b' x.l.length d') x.l.length ys from hyo); have HCG := hid hcg; have HEND := hid hend; have HGS := hid hgs
    clear hpo hyo hcg hend hcod hgs hnm hadd
    refine wpF_begin [0, 1, 2, 3, 5, 6, 9, 11, 12] (fun _ => True) (by kernel_rfl) ?_
    generalize w7.drew = wd at *
    (refine wpF_take (i := 0) ?_ (by kernel_rfl) (fun _ _ d _ _ h => by cases d <;> exact h) (by kernel_rfl) rfl (by kernel_rfl) (trivial) ?_ ?_; rotate_left; (· intro w' hS; go_simp; try with_reducible rfl); (try simp only [Act.put, List.setIfInBounds_toArray, List.set_cons_zero, List.set_cons_succ]))
    (refine wpF_take (i := 1) ?_ (by kernel_rfl) (fun _ _ d _ _ h => by cases d <;> exact h) (by kernel_rfl) rfl (by kernel_rfl) (trivial) ?_ ?_; rotate_left; (· intro w' hS; go_simp; try with_reducible rfl); (try simp only [Act.put, List.setIfInBounds_toArray, List.set_cons_zero, List.set_cons_succ]))
    (refine wpF_take (i := 2) ?_ (by kernel_rfl) (fun _ _ d _ _ h => by cases d <;> exact h) (by kernel_rfl) rfl (by kernel_rfl) (trivial) ?_ ?_; rotate_left; (· intro w' hS; go_simp; try with_reducible rfl); (try simp only [Act.put, List.setIfInBounds_toArray, List.set_cons_zero, List.set_cons_succ]))
    (refine wpF_take (i := 3) ?_ (by kernel_rfl) (fun _ _ d _ _ h => by cases d <;> exact h) (by kernel_rfl) rfl (by kernel_rfl) (trivial) ?_ ?_; rotate_left; (· intro w' hS; go_simp; try with_reducible rfl); (try simp only [Act.put, List.setIfInBounds_toArray, List.set_cons_zero, List.set_cons_succ]))
    (refine wpF_take (i := 5) ?_ (by kernel_rfl) (fun _ _ d _ _ h => by cases d <;> exact h) (by kernel_rfl) rfl (by kernel_rfl) (trivial) ?_ ?_; rotate_left; (· intro w' hS; go_simp; try with_reducible rfl); (try simp only [Act.put, List.setIfInBounds_toArray, List.set_cons_zero, List.set_cons_succ]))
    refine wpF_run2 (i := 4) (j := 7) (by kernel_rfl) rfl rfl (by kernel_rfl) (by kernel_rfl) (fun K hK => ?_) (fun K hK => ?_)
    · go_simp
      refine hK _ _ trivial ?_
      clear hK K
      try simp only [Act.put, List.setIfInBounds_toArray, List.set_cons_zero, List.set_cons_succ]
      (refine wpF_take (i := 6) ?_ (by kernel_rfl) (fun _ _ d _ _ h => by cases d <;> exact h) (by kernel_rfl) rfl (by kernel_rfl) (trivial) ?_ ?_; rotate_left; (· intro w' hS; go_simp; try with_reducible rfl); (try simp only [Act.put, List.setIfInBounds_toArray, List.set_cons_zero, List.set_cons_succ]))
      (refine wpF_run (i := 7) (by kernel_rfl) rfl (by kernel_rfl) (fun K hK => ?_); go_simp; refine hK _ _ (trivial) ?_; clear hK K; (try simp only [Act.put, List.setIfInBounds_toArray, List.set_cons_zero, List.set_cons_succ]))
      obtain ⟨wa, hwa⟩ : ∃ W, W = wd.alloc (.cells #[.int .i64 0, .int .i64 0, .string ⟨#[]⟩, .int .i64 0, .int .i64 0, .string ⟨#[]⟩, .slice none 0 0, .slice none 0 0] 29) := ⟨_, rfl⟩
      rw [← hwa]
      have hfa : Fr (fun _ => False) wd wa := by rw [hwa]; exact (Fr.refl _ _).alloc _
      have hcl : ∀ j y, [.int .i64 0, .int .i64 0, .string ⟨#[]⟩, .int .i64 0, .int .i64 0, .string ⟨#[]⟩, .slice none 0 0, .slice none 0 0][j]? = some y → wa.cell? ⟨wd.heap.size, j, none⟩ = some y := by rw [hwa]; exact cells_new4 wd #[.int .i64 0, .int .i64 0, .string ⟨#[]⟩, .int .i64 0, .int .i64 0, .string ⟨#[]⟩, .slice none 0 0, .slice none 0 0] _ _
      have HPA := hid (hfa.own HPO.out (fun _ _ => id)); have HYA := hid (hfa.own HYO.out (fun _ _ => id))
      have HFA := hid hfa; have HCL := hid hcl
      clear hfa hcl hwa d7 dz
      refine wpF_run (i := 8) (by kernel_rfl) rfl (by kernel_rfl) (fun K hK => ?_)
      refine wp_appendR8 (.tmp 57) (.tmp 60) 27 rfl 29 (.agg #[.int .i64 0, .int .i64 0, .string ⟨#[]⟩, .int .i64 0, .int .i64 0, .string ⟨#[]⟩, .slice none 0 0, .slice none 0 0]) 8 112 Tryd.underlying27 Tryd.info_nd8 rfl (by decide) (.slice b' x.l.length d') rfl w2.heap.size x.l.length ys HYA.out wd.heap.size 1 [.int .i64 0, .int .i64 0, .string ⟨#[]⟩, .int .i64 0, .int .i64 0, .string ⟨#[]⟩, .slice none 0 0, .slice none 0 0] rfl rfl HCL.out ?c3 HN1.out (by decide) (Nat.le_trans HB2.out HFA.out.size) ?_
      case c3 => intro q hq; simp at hq; rcases hq with rfl | rfl | rfl | rfl | rfl | rfl | rfl | rfl <;> rfl
      intro g2 cp wb hob hfb hnb
      refine hK _ _ trivial ?_
      clear hK K
      try simp only [Act.put, List.setIfInBounds_toArray, List.set_cons_zero, List.set_cons_succ]
      have hpb := hfb.own HPA.out (fun r e e2 => by obtain rfl := Option.some.inj e; exact HCG.out e2.symm)
      have hg2 : g2 ≠ g := fun e => by
        subst e
        rcases hnb with h | h
        · exact HCG.out h
        · have := HGS.out; have := HFA.out.size; omega
      have hyl : ys.length = x.l.length * 8 := HYO.out.1
      obtain ⟨hc1, hz1⟩ := own_cells8 hob
      obtain ⟨hc2, hz2⟩ := own_cells8 hpb
      have hkx : k * 8 + 7 < xs.length := by have h1 : xs.length = l.length * 8 := hpb.1; omega
      obtain ⟨y7, hy7⟩ : ∃ y, xs[k * 8 + 7]? = some y := ⟨_, List.getElem?_eq_getElem hkx⟩
      have s0 : wb.cell? ⟨g2, x.l.length * 8, none⟩ = some (.int .i64 0) := by rw [hc1 _ (by omega), List.getElem?_append_right (by omega)]; rw [show x.l.length * 8 - ys.length = 0 by omega]; rfl
      have s1 : wb.cell? ⟨g2, x.l.length * 8 + 1, none⟩ = some (.int .i64 0) := by rw [hc1 _ (by omega), List.getElem?_append_right (by omega)]; rw [show x.l.length * 8 + 1 - ys.length = 1 by omega]; rfl
      have s2 : wb.cell? ⟨g2, x.l.length * 8 + 2, none⟩ = some (.string ⟨#[]⟩) := by rw [hc1 _ (by omega), List.getElem?_append_right (by omega)]; rw [show x.l.length * 8 + 2 - ys.length = 2 by omega]; rfl
      have s3 : wb.cell? ⟨g2, x.l.length * 8 + 3, none⟩ = some (.int .i64 0) := by rw [hc1 _ (by omega), List.getElem?_append_right (by omega)]; rw [show x.l.length * 8 + 3 - ys.length = 3 by omega]; rfl
      have s4 : wb.cell? ⟨g2, x.l.length * 8 + 4, none⟩ = some (.int .i64 0) := by rw [hc1 _ (by omega), List.getElem?_append_right (by omega)]; rw [show x.l.length * 8 + 4 - ys.length = 4 by omega]; rfl
      have s5 : wb.cell? ⟨g2, x.l.length * 8 + 5, none⟩ = some (.string ⟨#[]⟩) := by rw [hc1 _ (by omega), List.getElem?_append_right (by omega)]; rw [show x.l.length * 8 + 5 - ys.length = 5 by omega]; rfl
      have s6 : wb.cell? ⟨g2, x.l.length * 8 + 6, none⟩ = some (.slice none 0 0) := by rw [hc1 _ (by omega), List.getElem?_append_right (by omega)]; rw [show x.l.length * 8 + 6 - ys.length = 6 by omega]; rfl
      have s7 : wb.cell? ⟨g2, x.l.length * 8 + 7, none⟩ = some (.slice none 0 0) := by rw [hc1 _ (by omega), List.getElem?_append_right (by omega)]; rw [show x.l.length * 8 + 7 - ys.length = 7 by omega]; rfl
      have p7 : wb.cell? ⟨g, k * 8 + 7, none⟩ = some y7 := by rw [hc2 _ (by omega), hy7]
      have HOB := hid hob; have HFB := hid hfb; have HNB := hid hnb; have HPB := hid hpb; have HG2 := hid hg2; have HYL := hid hyl
      clear hob hfb hnb hpb hg2 hyl hc1 hc2 hkx hy7
      (refine wpF_take (i := 9) ?_ (by kernel_rfl) (fun _ _ d _ _ h => by cases d <;> exact h) (by kernel_rfl) rfl (by kernel_rfl) (trivial) ?_ ?_; rotate_left; (· intro w' hS; have hlx : (x.l.length : Int) < x.l.length + 1 := (by omega); go_simp; try with_reducible rfl); (try simp only [Act.put, List.setIfInBounds_toArray, List.set_cons_zero, List.set_cons_succ]))
      (refine wpF_take (i := 11) ?_ (by kernel_rfl) (fun _ _ d _ _ h => by cases d <;> exact h) (by kernel_rfl) rfl (by kernel_rfl) (trivial) ?_ ?_; rotate_left; (· intro w' hS; go_simp; try with_reducible rfl); (try simp only [Act.put, List.setIfInBounds_toArray, List.set_cons_zero, List.set_cons_succ]))
      (refine wpF_take (i := 12) ?_ (by kernel_rfl) (fun _ _ d _ _ h => by cases d <;> exact h) (by kernel_rfl) rfl (by kernel_rfl) (trivial) ?_ ?_; rotate_left; (· intro w' hS; go_simp; try with_reducible rfl); (try simp only [Act.put, List.setIfInBounds_toArray, List.set_cons_zero, List.set_cons_succ]))
      refine wpF_run2 (i := 10) (j := 13) (by kernel_rfl) rfl rfl (by kernel_rfl) (by kernel_rfl) (fun K hK => ?_) (fun K hK => ?_)
      · go_simp
        refine hK _ _ trivial ?_
        clear hK K
        try simp only [Act.put, List.setIfInBounds_toArray, List.set_cons_zero, List.set_cons_succ]
        have hF1 : Fr (fun q => q = g2) wb ((((((((wb.setCell ⟨g2, x.l.length * 8, none⟩ (.int .i64 52)).setCell ⟨g2, x.l.length * 8 + 1, none⟩ (.int .i64 0)).setCell ⟨g2, x.l.length * 8 + 2, none⟩ (.string ⟨#[]⟩)).setCell ⟨g2, x.l.length * 8 + 3, none⟩ (.int .i64 0)).setCell ⟨g2, x.l.length * 8 + 4, none⟩ (.int .i64 0)).setCell ⟨g2, x.l.length * 8 + 5, none⟩ (.string ⟨#[]⟩)).setCell ⟨g2, x.l.length * 8 + 6, none⟩ (.slice none 0 0)).setCell ⟨g2, x.l.length * 8 + 7, none⟩ (.slice none 0 0)) := fr_put8 wb g2 x.l.length (.int .i64 52) (.int .i64 0) (.string ⟨#[]⟩) (.int .i64 0) (.int .i64 0) (.string ⟨#[]⟩) (.slice none 0 0) (.slice none 0 0)
        have hP1 := hF1.own HPB.out (fun r e e2 => by obtain rfl := Option.some.inj e; exact HG2.out e2.symm)
        have hC1 : ((((((((wb.setCell ⟨g2, x.l.length * 8, none⟩ (.int .i64 52)).setCell ⟨g2, x.l.length * 8 + 1, none⟩ (.int .i64 0)).setCell ⟨g2, x.l.length * 8 + 2, none⟩ (.string ⟨#[]⟩)).setCell ⟨g2, x.l.length * 8 + 3, none⟩ (.int .i64 0)).setCell ⟨g2, x.l.length * 8 + 4, none⟩ (.int .i64 0)).setCell ⟨g2, x.l.length * 8 + 5, none⟩ (.string ⟨#[]⟩)).setCell ⟨g2, x.l.length * 8 + 6, none⟩ (.slice none 0 0)).setCell ⟨g2, x.l.length * 8 + 7, none⟩ (.slice none 0 0)).ownsRow w2.heap.size 29 8 (.slice (some ⟨g2, 0, none⟩) (x.l.length + 1) cp) (x.l.length + 1) (ys ++ [.int .i64 52, .int .i64 0, .string ⟨#[]⟩, .int .i64 0, .int .i64 0, .string ⟨#[]⟩, .slice none 0 0, .slice none 0 0]) := own_put8 HYL.out (.int .i64 0) (.int .i64 0) (.string ⟨#[]⟩) (.int .i64 0) (.int .i64 0) (.string ⟨#[]⟩) (.slice none 0 0) (.slice none 0 0) (.int .i64 52) (.int .i64 0) (.string ⟨#[]⟩) (.int .i64 0) (.int .i64 0) (.string ⟨#[]⟩) (.slice none 0 0) (.slice none 0 0) HOB.out
        have q7 := hF1.cell p7 (fun e => HG2.out e.symm)
        clear s0 s1 s2 s3 s4 s5 s6 s7 p7 hz1 hz2
        generalize ((((((((wb.setCell ⟨g2, x.l.length * 8, none⟩ (.int .i64 52)).setCell ⟨g2, x.l.length * 8 + 1, none⟩ (.int .i64 0)).setCell ⟨g2, x.l.length * 8 + 2, none⟩ (.string ⟨#[]⟩)).setCell ⟨g2, x.l.length * 8 + 3, none⟩ (.int .i64 0)).setCell ⟨g2, x.l.length * 8 + 4, none⟩ (.int .i64 0)).setCell ⟨g2, x.l.length * 8 + 5, none⟩ (.string ⟨#[]⟩)).setCell ⟨g2, x.l.length * 8 + 6, none⟩ (.slice none 0 0)).setCell ⟨g2, x.l.length * 8 + 7, none⟩ (.slice none 0 0)) = wc at *
        have hz3 := (own_cells8 hP1).2
        (refine wpF_run (i := 13) (by kernel_rfl) rfl (by kernel_rfl) (fun K hK => ?_); go_simp; refine hK _ _ (trivial) ?_; clear hK K; (try simp only [Act.put, List.setIfInBounds_toArray, List.set_cons_zero, List.set_cons_succ]))
        refine wpF_end (by kernel_rfl) ?_
        have hP2 := own_setCell8 hP1 (k * 8 + 7) (.slice (some ⟨g2, 0, none⟩) (x.l.length + 1) cp) (by omega)
        have hf2 : Fr (fun q => q = g) wc (wc.setCell ⟨g, k * 8 + 7, none⟩ (.slice (some ⟨g2, 0, none⟩) (x.l.length + 1) cp)) := (Fr.refl (fun q => q = g) wc).setCell (p := ⟨g, k * 8 + 7, none⟩) (.inl rfl) (.slice (some ⟨g2, 0, none⟩) (x.l.length + 1) cp)
        have hC2 := hf2.own hC1 (fun r e e2 => by obtain rfl := Option.some.inj e; exact HG2.out e2)
        clear q7 hz3
        generalize (wc.setCell ⟨g, k * 8 + 7, none⟩ (.slice (some ⟨g2, 0, none⟩) (x.l.length + 1) cp)) = w8 at *
        have hfst : Fr (fun q => q = g ∨ q = g2) wb w8 := hF1.trans hf2 (fun _ _ h => .inr h) (fun q _ h => .inl h)
        have hfA : Fr (fun q => q = g ∨ some q = (Value.slice b' x.l.length d').ownBlock) wd w8 := (HFA.out.trans HFB.out (U := fun q => q = g ∨ some q = (Value.slice b' x.l.length d').ownBlock) (fun _ _ h => h.elim) (fun q hq h => .inr h)).trans hfst (U := fun q => q = g ∨ some q = (Value.slice b' x.l.length d').ownBlock) (fun _ _ h => h) (fun q hq h => h.elim .inl (fun e => HNB.out.elim (fun h' => .inr (by rw [e]; exact h'.symm)) (fun h' => by have := HFA.out.size; omega)))
        have hc8 : NL (fun _ => True) w8 (m.set k (.mk x.op ln2 x.s x.v (x.l ++ [nd52]))) (.slice (some ⟨g, 0, none⟩) l.length cc) := HEND.out w8 g2 cp hfA hP2 hC2
        have HC8 := hid hc8
        clear hc8
        have HF8 := hid (HFD.out.trans hfA (U := fun _ => False) (fun _ _ h => h) (fun q hq e => e.elim (fun e => by have := HGB.out; omega) (fun e => by have h1 := HYB.out q e.symm; have := HW2.out; omega)))
        have hne : stripL l ≠ stripL (m.set k (.mk x.op ln2 x.s x.v (x.l ++ [nd52]))) := by
          rw [← HST.out]
          refine stripL_set_ne m _ k _ _ HX5.out (List.getElem?_set_self (List.getElem?_eq_some_iff.1 HX5.out).1) (fun e => ?_)
          rw [Nd.strip, Nd.strip] at e
          injection e with _ _ _ _ e5
          have e6 := congrArg List.length e5
          rw [stripL_length, stripL_length] at e6
          simp at e6
        have hlm : (m.set k (.mk x.op ln2 x.s x.v (x.l ++ [nd52]))).length = l.length := by simp [hll]
        clear hP2 hC2 hfst hfA hP1 hC1 hF1 hf2
        generalize hm8 : m.set k (.mk x.op ln2 x.s x.v (x.l ++ [nd52])) = m8 at *
        have HNE := hid hne
        clear hne hm8 HEND HPO HYO HPA HYA HOB HPB HCL HFB HNB HFA HYB HCG HG2 HYL
        have hs8 := tsame_any l m8 _ _ w8 _ _ (HL.out w8 HF8.out) HC8.out
        rw [sameL_ne HNE.out] at hs8
        have HS8 := hid hs8
        clear hs8
        go_wp2_with fail
        refine HS8.out.mono ?_
        rintro e w9 ⟨rfl, hf9⟩
        have HF9 := hid (HF8.out.trans' hf9)
        have hs9 := tsame_any m8 l _ _ w9 _ _ (HC8.out.frame hf9 fun _ _ => id) (HL.out w9 HF9.out)
        rw [sameL_ne (fun e => HNE.out e.symm)] at hs9
        have HS9 := hid hs9
        clear hs9 hf9
        go_wp2_with fail
        refine HS9.out.mono ?_
        rintro e w10 ⟨rfl, hf10⟩
        have HF10 := hid (HF9.out.trans' hf10)
        clear hf10
        go_wp2_with fail
        go_ret
        exact ⟨rfl, HF10.out⟩
      · go_simp
        refine hK _ _ trivial ?_
        clear hK K
        try simp only [Act.put, List.setIfInBounds_toArray, List.set_cons_zero, List.set_cons_succ]
        have hP1 := own_setCell8 HPB.out (k * 8 + 7) (.slice (some ⟨g2, 0, none⟩) (x.l.length + 1) cp) (by omega)
        have hf1 : Fr (fun q => q = g) wb (wb.setCell ⟨g, k * 8 + 7, none⟩ (.slice (some ⟨g2, 0, none⟩) (x.l.length + 1) cp)) := (Fr.refl (fun q => q = g) wb).setCell (p := ⟨g, k * 8 + 7, none⟩) (.inl rfl) (.slice (some ⟨g2, 0, none⟩) (x.l.length + 1) cp)
        have hC1 := hf1.own HOB.out (fun r e e2 => by obtain rfl := Option.some.inj e; exact HG2.out e2)
        clear s0 s1 s2 s3 s4 s5 s6 s7 p7 hz1 hz2
        generalize (wb.setCell ⟨g, k * 8 + 7, none⟩ (.slice (some ⟨g2, 0, none⟩) (x.l.length + 1) cp)) = wc at *
        obtain ⟨hc3, hz3⟩ := own_cells8 hC1
        have hyl := HYL.out
        have s0 : wc.cell? ⟨g2, x.l.length * 8, none⟩ = some (.int .i64 0) := by rw [hc3 _ (by omega), List.getElem?_append_right (by omega)]; rw [show x.l.length * 8 - ys.length = 0 by omega]; rfl
        have s1 : wc.cell? ⟨g2, x.l.length * 8 + 1, none⟩ = some (.int .i64 0) := by rw [hc3 _ (by omega), List.getElem?_append_right (by omega)]; rw [show x.l.length * 8 + 1 - ys.length = 1 by omega]; rfl
        have s2 : wc.cell? ⟨g2, x.l.length * 8 + 2, none⟩ = some (.string ⟨#[]⟩) := by rw [hc3 _ (by omega), List.getElem?_append_right (by omega)]; rw [show x.l.length * 8 + 2 - ys.length = 2 by omega]; rfl
        have s3 : wc.cell? ⟨g2, x.l.length * 8 + 3, none⟩ = some (.int .i64 0) := by rw [hc3 _ (by omega), List.getElem?_append_right (by omega)]; rw [show x.l.length * 8 + 3 - ys.length = 3 by omega]; rfl
        have s4 : wc.cell? ⟨g2, x.l.length * 8 + 4, none⟩ = some (.int .i64 0) := by rw [hc3 _ (by omega), List.getElem?_append_right (by omega)]; rw [show x.l.length * 8 + 4 - ys.length = 4 by omega]; rfl
        have s5 : wc.cell? ⟨g2, x.l.length * 8 + 5, none⟩ = some (.string ⟨#[]⟩) := by rw [hc3 _ (by omega), List.getElem?_append_right (by omega)]; rw [show x.l.length * 8 + 5 - ys.length = 5 by omega]; rfl
        have s6 : wc.cell? ⟨g2, x.l.length * 8 + 6, none⟩ = some (.slice none 0 0) := by rw [hc3 _ (by omega), List.getElem?_append_right (by omega)]; rw [show x.l.length * 8 + 6 - ys.length = 6 by omega]; rfl
        have s7 : wc.cell? ⟨g2, x.l.length * 8 + 7, none⟩ = some (.slice none 0 0) := by rw [hc3 _ (by omega), List.getElem?_append_right (by omega)]; rw [show x.l.length * 8 + 7 - ys.length = 7 by omega]; rfl
        clear hc3 hyl
        (refine wpF_run (i := 10) (by kernel_rfl) rfl (by kernel_rfl) (fun K hK => ?_); go_simp; refine hK _ _ (trivial) ?_; clear hK K; (try simp only [Act.put, List.setIfInBounds_toArray, List.set_cons_zero, List.set_cons_succ]))
        refine wpF_end (by kernel_rfl) ?_
        have hF2 : Fr (fun q => q = g2) wc ((((((((wc.setCell ⟨g2, x.l.length * 8, none⟩ (.int .i64 52)).setCell ⟨g2, x.l.length * 8 + 1, none⟩ (.int .i64 0)).setCell ⟨g2, x.l.length * 8 + 2, none⟩ (.string ⟨#[]⟩)).setCell ⟨g2, x.l.length * 8 + 3, none⟩ (.int .i64 0)).setCell ⟨g2, x.l.length * 8 + 4, none⟩ (.int .i64 0)).setCell ⟨g2, x.l.length * 8 + 5, none⟩ (.string ⟨#[]⟩)).setCell ⟨g2, x.l.length * 8 + 6, none⟩ (.slice none 0 0)).setCell ⟨g2, x.l.length * 8 + 7, none⟩ (.slice none 0 0)) := fr_put8 wc g2 x.l.length (.int .i64 52) (.int .i64 0) (.string ⟨#[]⟩) (.int .i64 0) (.int .i64 0) (.string ⟨#[]⟩) (.slice none 0 0) (.slice none 0 0)
        have hP2 := hF2.own hP1 (fun r e e2 => by obtain rfl := Option.some.inj e; exact HG2.out e2.symm)
        have hC2 : ((((((((wc.setCell ⟨g2, x.l.length * 8, none⟩ (.int .i64 52)).setCell ⟨g2, x.l.length * 8 + 1, none⟩ (.int .i64 0)).setCell ⟨g2, x.l.length * 8 + 2, none⟩ (.string ⟨#[]⟩)).setCell ⟨g2, x.l.length * 8 + 3, none⟩ (.int .i64 0)).setCell ⟨g2, x.l.length * 8 + 4, none⟩ (.int .i64 0)).setCell ⟨g2, x.l.length * 8 + 5, none⟩ (.string ⟨#[]⟩)).setCell ⟨g2, x.l.length * 8 + 6, none⟩ (.slice none 0 0)).setCell ⟨g2, x.l.length * 8 + 7, none⟩ (.slice none 0 0)).ownsRow w2.heap.size 29 8 (.slice (some ⟨g2, 0, none⟩) (x.l.length + 1) cp) (x.l.length + 1) (ys ++ [.int .i64 52, .int .i64 0, .string ⟨#[]⟩, .int .i64 0, .int .i64 0, .string ⟨#[]⟩, .slice none 0 0, .slice none 0 0]) := own_put8 HYL.out (.int .i64 0) (.int .i64 0) (.string ⟨#[]⟩) (.int .i64 0) (.int .i64 0) (.string ⟨#[]⟩) (.slice none 0 0) (.slice none 0 0) (.int .i64 52) (.int .i64 0) (.string ⟨#[]⟩) (.int .i64 0) (.int .i64 0) (.string ⟨#[]⟩) (.slice none 0 0) (.slice none 0 0) hC1
        clear s0 s1 s2 s3 s4 s5 s6 s7 hz3
        generalize ((((((((wc.setCell ⟨g2, x.l.length * 8, none⟩ (.int .i64 52)).setCell ⟨g2, x.l.length * 8 + 1, none⟩ (.int .i64 0)).setCell ⟨g2, x.l.length * 8 + 2, none⟩ (.string ⟨#[]⟩)).setCell ⟨g2, x.l.length * 8 + 3, none⟩ (.int .i64 0)).setCell ⟨g2, x.l.length * 8 + 4, none⟩ (.int .i64 0)).setCell ⟨g2, x.l.length * 8 + 5, none⟩ (.string ⟨#[]⟩)).setCell ⟨g2, x.l.length * 8 + 6, none⟩ (.slice none 0 0)).setCell ⟨g2, x.l.length * 8 + 7, none⟩ (.slice none 0 0)) = w8 at *
        have hfst : Fr (fun q => q = g ∨ q = g2) wb w8 := hf1.trans hF2 (fun _ _ h => .inl h) (fun q _ h => .inr h)
        have hfA : Fr (fun q => q = g ∨ some q = (Value.slice b' x.l.length d').ownBlock) wd w8 := (HFA.out.trans HFB.out (U := fun q => q = g ∨ some q = (Value.slice b' x.l.length d').ownBlock) (fun _ _ h => h.elim) (fun q hq h => .inr h)).trans hfst (U := fun q => q = g ∨ some q = (Value.slice b' x.l.length d').ownBlock) (fun _ _ h => h) (fun q hq h => h.elim .inl (fun e => HNB.out.elim (fun h' => .inr (by rw [e]; exact h'.symm)) (fun h' => by have := HFA.out.size; omega)))
        have hc8 : NL (fun _ => True) w8 (m.set k (.mk x.op ln2 x.s x.v (x.l ++ [nd52]))) (.slice (some ⟨g, 0, none⟩) l.length cc) := HEND.out w8 g2 cp hfA hP2 hC2
        have HC8 := hid hc8
        clear hc8
        have HF8 := hid (HFD.out.trans hfA (U := fun _ => False) (fun _ _ h => h) (fun q hq e => e.elim (fun e => by have := HGB.out; omega) (fun e => by have h1 := HYB.out q e.symm; have := HW2.out; omega)))
        have hne : stripL l ≠ stripL (m.set k (.mk x.op ln2 x.s x.v (x.l ++ [nd52]))) := by
          rw [← HST.out]
          refine stripL_set_ne m _ k _ _ HX5.out (List.getElem?_set_self (List.getElem?_eq_some_iff.1 HX5.out).1) (fun e => ?_)
          rw [Nd.strip, Nd.strip] at e
          injection e with _ _ _ _ e5
          have e6 := congrArg List.length e5
          rw [stripL_length, stripL_length] at e6
          simp at e6
        have hlm : (m.set k (.mk x.op ln2 x.s x.v (x.l ++ [nd52]))).length = l.length := by simp [hll]
        clear hP2 hC2 hfst hfA hP1 hC1 hf1 hF2
        generalize hm8 : m.set k (.mk x.op ln2 x.s x.v (x.l ++ [nd52])) = m8 at *
        have HNE := hid hne
        clear hne hm8 HEND HPO HYO HPA HYA HOB HPB HCL HFB HNB HFA HYB HCG HG2 HYL
        have hs8 := tsame_any l m8 _ _ w8 _ _ (HL.out w8 HF8.out) HC8.out
        rw [sameL_ne HNE.out] at hs8
        have HS8 := hid hs8
        clear hs8
        go_wp2_with fail
        refine HS8.out.mono ?_
        rintro e w9 ⟨rfl, hf9⟩
        have HF9 := hid (HF8.out.trans' hf9)
        have hs9 := tsame_any m8 l _ _ w9 _ _ (HC8.out.frame hf9 fun _ _ => id) (HL.out w9 HF9.out)
        rw [sameL_ne (fun e => HNE.out e.symm)] at hs9
        have HS9 := hid hs9
        clear hs9 hf9
        go_wp2_with fail
        refine HS9.out.mono ?_
        rintro e w10 ⟨rfl, hf10⟩
        have HF10 := hid (HF9.out.trans' hf10)
        clear hf10
        go_wp2_with fail
        go_ret
        exact ⟨rfl, HF10.out⟩
    · go_simp
      refine hK _ _ trivial ?_
      clear hK K
      try simp only [Act.put, List.setIfInBounds_toArray, List.set_cons_zero, List.set_cons_succ]
      have d8 : (wd.alloc (.cells #[.int .i64 0, .int .i64 0, .string ⟨#[]⟩, .int .i64 0, .int .i64 0, .string ⟨#[]⟩, .slice none 0 0, .slice none 0 0] 29)).cell? ⟨g, k * 8 + 7, none⟩ = some (.slice b' x.l.length d') := ((Fr.refl (fun _ => False) wd).alloc _).cell d7 not_false
      (refine wpF_run (i := 4) (by kernel_rfl) rfl (by kernel_rfl) (fun K hK => ?_); go_simp; refine hK _ _ (trivial) ?_; clear hK K; (try simp only [Act.put, List.setIfInBounds_toArray, List.set_cons_zero, List.set_cons_succ]))
      clear d8
      (refine wpF_take (i := 6) ?_ (by kernel_rfl) (fun _ _ d _ _ h => by cases d <;> exact h) (by kernel_rfl) rfl (by kernel_rfl) (trivial) ?_ ?_; rotate_left; (· intro w' hS; go_simp; try with_reducible rfl); (try simp only [Act.put, List.setIfInBounds_toArray, List.set_cons_zero, List.set_cons_succ]))
      obtain ⟨wa, hwa⟩ : ∃ W, W = wd.alloc (.cells #[.int .i64 0, .int .i64 0, .string ⟨#[]⟩, .int .i64 0, .int .i64 0, .string ⟨#[]⟩, .slice none 0 0, .slice none 0 0] 29) := ⟨_, rfl⟩
      rw [← hwa]
      have hfa : Fr (fun _ => False) wd wa := by rw [hwa]; exact (Fr.refl _ _).alloc _
      have hcl : ∀ j y, [.int .i64 0, .int .i64 0, .string ⟨#[]⟩, .int .i64 0, .int .i64 0, .string ⟨#[]⟩, .slice none 0 0, .slice none 0 0][j]? = some y → wa.cell? ⟨wd.heap.size, j, none⟩ = some y := by rw [hwa]; exact cells_new4 wd #[.int .i64 0, .int .i64 0, .string ⟨#[]⟩, .int .i64 0, .int .i64 0, .string ⟨#[]⟩, .slice none 0 0, .slice none 0 0] _ _
      have HPA := hid (hfa.own HPO.out (fun _ _ => id)); have HYA := hid (hfa.own HYO.out (fun _ _ => id))
      have HFA := hid hfa; have HCL := hid hcl
      clear hfa hcl hwa d7 dz
      refine wpF_run (i := 8) (by kernel_rfl) rfl (by kernel_rfl) (fun K hK => ?_)
      refine wp_appendR8 (.tmp 57) (.tmp 60) 27 rfl 29 (.agg #[.int .i64 0, .int .i64 0, .string ⟨#[]⟩, .int .i64 0, .int .i64 0, .string ⟨#[]⟩, .slice none 0 0, .slice none 0 0]) 8 112 Tryd.underlying27 Tryd.info_nd8 rfl (by decide) (.slice b' x.l.length d') rfl w2.heap.size x.l.length ys HYA.out wd.heap.size 1 [.int .i64 0, .int .i64 0, .string ⟨#[]⟩, .int .i64 0, .int .i64 0, .string ⟨#[]⟩, .slice none 0 0, .slice none 0 0] rfl rfl HCL.out ?c3 HN1.out (by decide) (Nat.le_trans HB2.out HFA.out.size) ?_
      case c3 => intro q hq; simp at hq; rcases hq with rfl | rfl | rfl | rfl | rfl | rfl | rfl | rfl <;> rfl
      intro g2 cp wb hob hfb hnb
      refine hK _ _ trivial ?_
      clear hK K
      try simp only [Act.put, List.setIfInBounds_toArray, List.set_cons_zero, List.set_cons_succ]
      have hpb := hfb.own HPA.out (fun r e e2 => by obtain rfl := Option.some.inj e; exact HCG.out e2.symm)
      have hg2 : g2 ≠ g := fun e => by
        subst e
        rcases hnb with h | h
        · exact HCG.out h
        · have := HGS.out; have := HFA.out.size; omega
      have hyl : ys.length = x.l.length * 8 := HYO.out.1
      obtain ⟨hc1, hz1⟩ := own_cells8 hob
      obtain ⟨hc2, hz2⟩ := own_cells8 hpb
      have hkx : k * 8 + 7 < xs.length := by have h1 : xs.length = l.length * 8 := hpb.1; omega
      obtain ⟨y7, hy7⟩ : ∃ y, xs[k * 8 + 7]? = some y := ⟨_, List.getElem?_eq_getElem hkx⟩
      have s0 : wb.cell? ⟨g2, x.l.length * 8, none⟩ = some (.int .i64 0) := by rw [hc1 _ (by omega), List.getElem?_append_right (by omega)]; rw [show x.l.length * 8 - ys.length = 0 by omega]; rfl
      have s1 : wb.cell? ⟨g2, x.l.length * 8 + 1, none⟩ = some (.int .i64 0) := by rw [hc1 _ (by omega), List.getElem?_append_right (by omega)]; rw [show x.l.length * 8 + 1 - ys.length = 1 by omega]; rfl
      have s2 : wb.cell? ⟨g2, x.l.length * 8 + 2, none⟩ = some (.string ⟨#[]⟩) := by rw [hc1 _ (by omega), List.getElem?_append_right (by omega)]; rw [show x.l.length * 8 + 2 - ys.length = 2 by omega]; rfl
      have s3 : wb.cell? ⟨g2, x.l.length * 8 + 3, none⟩ = some (.int .i64 0) := by rw [hc1 _ (by omega), List.getElem?_append_right (by omega)]; rw [show x.l.length * 8 + 3 - ys.length = 3 by omega]; rfl
      have s4 : wb.cell? ⟨g2, x.l.length * 8 + 4, none⟩ = some (.int .i64 0) := by rw [hc1 _ (by omega), List.getElem?_append_right (by omega)]; rw [show x.l.length * 8 + 4 - ys.length = 4 by omega]; rfl
      have s5 : wb.cell? ⟨g2, x.l.length * 8 + 5, none⟩ = some (.string ⟨#[]⟩) := by rw [hc1 _ (by omega), List.getElem?_append_right (by omega)]; rw [show x.l.length * 8 + 5 - ys.length = 5 by omega]; rfl
      have s6 : wb.cell? ⟨g2, x.l.length * 8 + 6, none⟩ = some (.slice none 0 0) := by rw [hc1 _ (by omega), List.getElem?_append_right (by omega)]; rw [show x.l.length * 8 + 6 - ys.length = 6 by omega]; rfl
      have s7 : wb.cell? ⟨g2, x.l.length * 8 + 7, none⟩ = some (.slice none 0 0) := by rw [hc1 _ (by omega), List.getElem?_append_right (by omega)]; rw [show x.l.length * 8 + 7 - ys.length = 7 by omega]; rfl
      have p7 : wb.cell? ⟨g, k * 8 + 7, none⟩ = some y7 := by rw [hc2 _ (by omega), hy7]
      have HOB := hid hob; have HFB := hid hfb; have HNB := hid hnb; have HPB := hid hpb; have HG2 := hid hg2; have HYL := hid hyl
      clear hob hfb hnb hpb hg2 hyl hc1 hc2 hkx hy7
      (refine wpF_take (i := 9) ?_ (by kernel_rfl) (fun _ _ d _ _ h => by cases d <;> exact h) (by kernel_rfl) rfl (by kernel_rfl) (trivial) ?_ ?_; rotate_left; (· intro w' hS; have hlx : (x.l.length : Int) < x.l.length + 1 := (by omega); go_simp; try with_reducible rfl); (try simp only [Act.put, List.setIfInBounds_toArray, List.set_cons_zero, List.set_cons_succ]))
      (refine wpF_take (i := 11) ?_ (by kernel_rfl) (fun _ _ d _ _ h => by cases d <;> exact h) (by kernel_rfl) rfl (by kernel_rfl) (trivial) ?_ ?_; rotate_left; (· intro w' hS; go_simp; try with_reducible rfl); (try simp only [Act.put, List.setIfInBounds_toArray, List.set_cons_zero, List.set_cons_succ]))
      (refine wpF_take (i := 12) ?_ (by kernel_rfl) (fun _ _ d _ _ h => by cases d <;> exact h) (by kernel_rfl) rfl (by kernel_rfl) (trivial) ?_ ?_; rotate_left; (· intro w' hS; go_simp; try with_reducible rfl); (try simp only [Act.put, List.setIfInBounds_toArray, List.set_cons_zero, List.set_cons_succ]))
      refine wpF_run2 (i := 10) (j := 13) (by kernel_rfl) rfl rfl (by kernel_rfl) (by kernel_rfl) (fun K hK => ?_) (fun K hK => ?_)
      · go_simp
        refine hK _ _ trivial ?_
        clear hK K
        try simp only [Act.put, List.setIfInBounds_toArray, List.set_cons_zero, List.set_cons_succ]
        have hF1 : Fr (fun q => q = g2) wb ((((((((wb.setCell ⟨g2, x.l.length * 8, none⟩ (.int .i64 52)).setCell ⟨g2, x.l.length * 8 + 1, none⟩ (.int .i64 0)).setCell ⟨g2, x.l.length * 8 + 2, none⟩ (.string ⟨#[]⟩)).setCell ⟨g2, x.l.length * 8 + 3, none⟩ (.int .i64 0)).setCell ⟨g2, x.l.length * 8 + 4, none⟩ (.int .i64 0)).setCell ⟨g2, x.l.length * 8 + 5, none⟩ (.string ⟨#[]⟩)).setCell ⟨g2, x.l.length * 8 + 6, none⟩ (.slice none 0 0)).setCell ⟨g2, x.l.length * 8 + 7, none⟩ (.slice none 0 0)) := fr_put8 wb g2 x.l.length (.int .i64 52) (.int .i64 0) (.string ⟨#[]⟩) (.int .i64 0) (.int .i64 0) (.string ⟨#[]⟩) (.slice none 0 0) (.slice none 0 0)
        have hP1 := hF1.own HPB.out (fun r e e2 => by obtain rfl := Option.some.inj e; exact HG2.out e2.symm)
        have hC1 : ((((((((wb.setCell ⟨g2, x.l.length * 8, none⟩ (.int .i64 52)).setCell ⟨g2, x.l.length * 8 + 1, none⟩ (.int .i64 0)).setCell ⟨g2, x.l.length * 8 + 2, none⟩ (.string ⟨#[]⟩)).setCell ⟨g2, x.l.length * 8 + 3, none⟩ (.int .i64 0)).setCell ⟨g2, x.l.length * 8 + 4, none⟩ (.int .i64 0)).setCell ⟨g2, x.l.length * 8 + 5, none⟩ (.string ⟨#[]⟩)).setCell ⟨g2, x.l.length * 8 + 6, none⟩ (.slice none 0 0)).setCell ⟨g2, x.l.length * 8 + 7, none⟩ (.slice none 0 0)).ownsRow w2.heap.size 29 8 (.slice (some ⟨g2, 0, none⟩) (x.l.length + 1) cp) (x.l.length + 1) (ys ++ [.int .i64 52, .int .i64 0, .string ⟨#[]⟩, .int .i64 0, .int .i64 0, .string ⟨#[]⟩, .slice none 0 0, .slice none 0 0]) := own_put8 HYL.out (.int .i64 0) (.int .i64 0) (.string ⟨#[]⟩) (.int .i64 0) (.int .i64 0) (.string ⟨#[]⟩) (.slice none 0 0) (.slice none 0 0) (.int .i64 52) (.int .i64 0) (.string ⟨#[]⟩) (.int .i64 0) (.int .i64 0) (.string ⟨#[]⟩) (.slice none 0 0) (.slice none 0 0) HOB.out
        have q7 := hF1.cell p7 (fun e => HG2.out e.symm)
        clear s0 s1 s2 s3 s4 s5 s6 s7 p7 hz1 hz2
        generalize ((((((((wb.setCell ⟨g2, x.l.length * 8, none⟩ (.int .i64 52)).setCell ⟨g2, x.l.length * 8 + 1, none⟩ (.int .i64 0)).setCell ⟨g2, x.l.length * 8 + 2, none⟩ (.string ⟨#[]⟩)).setCell ⟨g2, x.l.length * 8 + 3, none⟩ (.int .i64 0)).setCell ⟨g2, x.l.length * 8 + 4, none⟩ (.int .i64 0)).setCell ⟨g2, x.l.length * 8 + 5, none⟩ (.string ⟨#[]⟩)).setCell ⟨g2, x.l.length * 8 + 6, none⟩ (.slice none 0 0)).setCell ⟨g2, x.l.length * 8 + 7, none⟩ (.slice none 0 0)) = wc at *
        have hz3 := (own_cells8 hP1).2
        (refine wpF_run (i := 13) (by kernel_rfl) rfl (by kernel_rfl) (fun K hK => ?_); go_simp; refine hK _ _ (trivial) ?_; clear hK K; (try simp only [Act.put, List.setIfInBounds_toArray, List.set_cons_zero, List.set_cons_succ]))
        refine wpF_end (by kernel_rfl) ?_
        have hP2 := own_setCell8 hP1 (k * 8 + 7) (.slice (some ⟨g2, 0, none⟩) (x.l.length + 1) cp) (by omega)
        have hf2 : Fr (fun q => q = g) wc (wc.setCell ⟨g, k * 8 + 7, none⟩ (.slice (some ⟨g2, 0, none⟩) (x.l.length + 1) cp)) := (Fr.refl (fun q => q = g) wc).setCell (p := ⟨g, k * 8 + 7, none⟩) (.inl rfl) (.slice (some ⟨g2, 0, none⟩) (x.l.length + 1) cp)
        have hC2 := hf2.own hC1 (fun r e e2 => by obtain rfl := Option.some.inj e; exact HG2.out e2)
        clear q7 hz3
        generalize (wc.setCell ⟨g, k * 8 + 7, none⟩ (.slice (some ⟨g2, 0, none⟩) (x.l.length + 1) cp)) = w8 at *
        have hfst : Fr (fun q => q = g ∨ q = g2) wb w8 := hF1.trans hf2 (fun _ _ h => .inr h) (fun q _ h => .inl h)
        have hfA : Fr (fun q => q = g ∨ some q = (Value.slice b' x.l.length d').ownBlock) wd w8 := (HFA.out.trans HFB.out (U := fun q => q = g ∨ some q = (Value.slice b' x.l.length d').ownBlock) (fun _ _ h => h.elim) (fun q hq h => .inr h)).trans hfst (U := fun q => q = g ∨ some q = (Value.slice b' x.l.length d').ownBlock) (fun _ _ h => h) (fun q hq h => h.elim .inl (fun e => HNB.out.elim (fun h' => .inr (by rw [e]; exact h'.symm)) (fun h' => by have := HFA.out.size; omega)))
        have hc8 : NL (fun _ => True) w8 (m.set k (.mk x.op ln2 x.s x.v (x.l ++ [nd52]))) (.slice (some ⟨g, 0, none⟩) l.length cc) := HEND.out w8 g2 cp hfA hP2 hC2
        have HC8 := hid hc8
        clear hc8
        have HF8 := hid (HFD.out.trans hfA (U := fun _ => False) (fun _ _ h => h) (fun q hq e => e.elim (fun e => by have := HGB.out; omega) (fun e => by have h1 := HYB.out q e.symm; have := HW2.out; omega)))
        have hne : stripL l ≠ stripL (m.set k (.mk x.op ln2 x.s x.v (x.l ++ [nd52]))) := by
          rw [← HST.out]
          refine stripL_set_ne m _ k _ _ HX5.out (List.getElem?_set_self (List.getElem?_eq_some_iff.1 HX5.out).1) (fun e => ?_)
          rw [Nd.strip, Nd.strip] at e
          injection e with _ _ _ _ e5
          have e6 := congrArg List.length e5
          rw [stripL_length, stripL_length] at e6
          simp at e6
        have hlm : (m.set k (.mk x.op ln2 x.s x.v (x.l ++ [nd52]))).length = l.length := by simp [hll]
        clear hP2 hC2 hfst hfA hP1 hC1 hF1 hf2
        generalize hm8 : m.set k (.mk x.op ln2 x.s x.v (x.l ++ [nd52])) = m8 at *
        have HNE := hid hne
        clear hne hm8 HEND HPO HYO HPA HYA HOB HPB HCL HFB HNB HFA HYB HCG HG2 HYL
        have hs8 := tsame_any l m8 _ _ w8 _ _ (HL.out w8 HF8.out) HC8.out
        rw [sameL_ne HNE.out] at hs8
        have HS8 := hid hs8
        clear hs8
        go_wp2_with fail
        refine HS8.out.mono ?_
        rintro e w9 ⟨rfl, hf9⟩
        have HF9 := hid (HF8.out.trans' hf9)
        have hs9 := tsame_any m8 l _ _ w9 _ _ (HC8.out.frame hf9 fun _ _ => id) (HL.out w9 HF9.out)
        rw [sameL_ne (fun e => HNE.out e.symm)] at hs9
        have HS9 := hid hs9
        clear hs9 hf9
        go_wp2_with fail
        refine HS9.out.mono ?_
        rintro e w10 ⟨rfl, hf10⟩
        have HF10 := hid (HF9.out.trans' hf10)
        clear hf10
        go_wp2_with fail
        go_ret
        exact ⟨rfl, HF10.out⟩
      · go_simp
        refine hK _ _ trivial ?_
        clear hK K
        try simp only [Act.put, List.setIfInBounds_toArray, List.set_cons_zero, List.set_cons_succ]
        have hP1 := own_setCell8 HPB.out (k * 8 + 7) (.slice (some ⟨g2, 0, none⟩) (x.l.length + 1) cp) (by omega)
        have hf1 : Fr (fun q => q = g) wb (wb.setCell ⟨g, k * 8 + 7, none⟩ (.slice (some ⟨g2, 0, none⟩) (x.l.length + 1) cp)) := (Fr.refl (fun q => q = g) wb).setCell (p := ⟨g, k * 8 + 7, none⟩) (.inl rfl) (.slice (some ⟨g2, 0, none⟩) (x.l.length + 1) cp)
        have hC1 := hf1.own HOB.out (fun r e e2 => by obtain rfl := Option.some.inj e; exact HG2.out e2)
        clear s0 s1 s2 s3 s4 s5 s6 s7 p7 hz1 hz2
        generalize (wb.setCell ⟨g, k * 8 + 7, none⟩ (.slice (some ⟨g2, 0, none⟩) (x.l.length + 1) cp)) = wc at *
        obtain ⟨hc3, hz3⟩ := own_cells8 hC1
        have hyl := HYL.out
        have s0 : wc.cell? ⟨g2, x.l.length * 8, none⟩ = some (.int .i64 0) := by rw [hc3 _ (by omega), List.getElem?_append_right (by omega)]; rw [show x.l.length * 8 - ys.length = 0 by omega]; rfl
        have s1 : wc.cell? ⟨g2, x.l.length * 8 + 1, none⟩ = some (.int .i64 0) := by rw [hc3 _ (by omega), List.getElem?_append_right (by omega)]; rw [show x.l.length * 8 + 1 - ys.length = 1 by omega]; rfl
        have s2 : wc.cell? ⟨g2, x.l.length * 8 + 2, none⟩ = some (.string ⟨#[]⟩) := by rw [hc3 _ (by omega), List.getElem?_append_right (by omega)]; rw [show x.l.length * 8 + 2 - ys.length = 2 by omega]; rfl
        have s3 : wc.cell? ⟨g2, x.l.length * 8 + 3, none⟩ = some (.int .i64 0) := by rw [hc3 _ (by omega), List.getElem?_append_right (by omega)]; rw [show x.l.length * 8 + 3 - ys.length = 3 by omega]; rfl
        have s4 : wc.cell? ⟨g2, x.l.length * 8 + 4, none⟩ = some (.int .i64 0) := by rw [hc3 _ (by omega), List.getElem?_append_right (by omega)]; rw [show x.l.length * 8 + 4 - ys.length = 4 by omega]; rfl
        have s5 : wc.cell? ⟨g2, x.l.length * 8 + 5, none⟩ = some (.string ⟨#[]⟩) := by rw [hc3 _ (by omega), List.getElem?_append_right (by omega)]; rw [show x.l.length * 8 + 5 - ys.length = 5 by omega]; rfl
        have s6 : wc.cell? ⟨g2, x.l.length * 8 + 6, none⟩ = some (.slice none 0 0) := by rw [hc3 _ (by omega), List.getElem?_append_right (by omega)]; rw [show x.l.length * 8 + 6 - ys.length = 6 by omega]; rfl
        have s7 : wc.cell? ⟨g2, x.l.length * 8 + 7, none⟩ = some (.slice none 0 0) := by rw [hc3 _ (by omega), List.getElem?_append_right (by omega)]; rw [show x.l.length * 8 + 7 - ys.length = 7 by omega]; rfl
        clear hc3 hyl
        (refine wpF_run (i := 10) (by kernel_rfl) rfl (by kernel_rfl) (fun K hK => ?_); go_simp; refine hK _ _ (trivial) ?_; clear hK K; (try simp only [Act.put, List.setIfInBounds_toArray, List.set_cons_zero, List.set_cons_succ]))
        refine wpF_end (by kernel_rfl) ?_
        have hF2 : Fr (fun q => q = g2) wc ((((((((wc.setCell ⟨g2, x.l.length * 8, none⟩ (.int .i64 52)).setCell ⟨g2, x.l.length * 8 + 1, none⟩ (.int .i64 0)).setCell ⟨g2, x.l.length * 8 + 2, none⟩ (.string ⟨#[]⟩)).setCell ⟨g2, x.l.length * 8 + 3, none⟩ (.int .i64 0)).setCell ⟨g2, x.l.length * 8 + 4, none⟩ (.int .i64 0)).setCell ⟨g2, x.l.length * 8 + 5, none⟩ (.string ⟨#[]⟩)).setCell ⟨g2, x.l.length * 8 + 6, none⟩ (.slice none 0 0)).setCell ⟨g2, x.l.length * 8 + 7, none⟩ (.slice none 0 0)) := fr_put8 wc g2 x.l.length (.int .i64 52) (.int .i64 0) (.string ⟨#[]⟩) (.int .i64 0) (.int .i64 0) (.string ⟨#[]⟩) (.slice none 0 0) (.slice none 0 0)
        have hP2 := hF2.own hP1 (fun r e e2 => by obtain rfl := Option.some.inj e; exact HG2.out e2.symm)
        have hC2 : ((((((((wc.setCell ⟨g2, x.l.length * 8, none⟩ (.int .i64 52)).setCell ⟨g2, x.l.length * 8 + 1, none⟩ (.int .i64 0)).setCell ⟨g2, x.l.length * 8 + 2, none⟩ (.string ⟨#[]⟩)).setCell ⟨g2, x.l.length * 8 + 3, none⟩ (.int .i64 0)).setCell ⟨g2, x.l.length * 8 + 4, none⟩ (.int .i64 0)).setCell ⟨g2, x.l.length * 8 + 5, none⟩ (.string ⟨#[]⟩)).setCell ⟨g2, x.l.length * 8 + 6, none⟩ (.slice none 0 0)).setCell ⟨g2, x.l.length * 8 + 7, none⟩ (.slice none 0 0)).ownsRow w2.heap.size 29 8 (.slice (some ⟨g2, 0, none⟩) (x.l.length + 1) cp) (x.l.length + 1) (ys ++ [.int .i64 52, .int .i64 0, .string ⟨#[]⟩, .int .i64 0, .int .i64 0, .string ⟨#[]⟩, .slice none 0 0, .slice none 0 0]) := own_put8 HYL.out (.int .i64 0) (.int .i64 0) (.string ⟨#[]⟩) (.int .i64 0) (.int .i64 0) (.string ⟨#[]⟩) (.slice none 0 0) (.slice none 0 0) (.int .i64 52) (.int .i64 0) (.string ⟨#[]⟩) (.int .i64 0) (.int .i64 0) (.string ⟨#[]⟩) (.slice none 0 0) (.slice none 0 0) hC1
        clear s0 s1 s2 s3 s4 s5 s6 s7 hz3
        generalize ((((((((wc.setCell ⟨g2, x.l.length * 8, none⟩ (.int .i64 52)).setCell ⟨g2, x.l.length * 8 + 1, none⟩ (.int .i64 0)).setCell ⟨g2, x.l.length * 8 + 2, none⟩ (.string ⟨#[]⟩)).setCell ⟨g2, x.l.length * 8 + 3, none⟩ (.int .i64 0)).setCell ⟨g2, x.l.length * 8 + 4, none⟩ (.int .i64 0)).setCell ⟨g2, x.l.length * 8 + 5, none⟩ (.string ⟨#[]⟩)).setCell ⟨g2, x.l.length * 8 + 6, none⟩ (.slice none 0 0)).setCell ⟨g2, x.l.length * 8 + 7, none⟩ (.slice none 0 0)) = w8 at *
        have hfst : Fr (fun q => q = g ∨ q = g2) wb w8 := hf1.trans hF2 (fun _ _ h => .inl h) (fun q _ h => .inr h)
        have hfA : Fr (fun q => q = g ∨ some q = (Value.slice b' x.l.length d').ownBlock) wd w8 := (HFA.out.trans HFB.out (U := fun q => q = g ∨ some q = (Value.slice b' x.l.length d').ownBlock) (fun _ _ h => h.elim) (fun q hq h => .inr h)).trans hfst (U := fun q => q = g ∨ some q = (Value.slice b' x.l.length d').ownBlock) (fun _ _ h => h) (fun q hq h => h.elim .inl (fun e => HNB.out.elim (fun h' => .inr (by rw [e]; exact h'.symm)) (fun h' => by have := HFA.out.size; omega)))
        have hc8 : NL (fun _ => True) w8 (m.set k (.mk x.op ln2 x.s x.v (x.l ++ [nd52]))) (.slice (some ⟨g, 0, none⟩) l.length cc) := HEND.out w8 g2 cp hfA hP2 hC2
        have HC8 := hid hc8
        clear hc8
        have HF8 := hid (HFD.out.trans hfA (U := fun _ => False) (fun _ _ h => h) (fun q hq e => e.elim (fun e => by have := HGB.out; omega) (fun e => by have h1 := HYB.out q e.symm; have := HW2.out; omega)))
        have hne : stripL l ≠ stripL (m.set k (.mk x.op ln2 x.s x.v (x.l ++ [nd52]))) := by
          rw [← HST.out]
          refine stripL_set_ne m _ k _ _ HX5.out (List.getElem?_set_self (List.getElem?_eq_some_iff.1 HX5.out).1) (fun e => ?_)
          rw [Nd.strip, Nd.strip] at e
          injection e with _ _ _ _ e5
          have e6 := congrArg List.length e5
          rw [stripL_length, stripL_length] at e6
          simp at e6
        have hlm : (m.set k (.mk x.op ln2 x.s x.v (x.l ++ [nd52]))).length = l.length := by simp [hll]
        clear hP2 hC2 hfst hfA hP1 hC1 hf1 hF2
        generalize hm8 : m.set k (.mk x.op ln2 x.s x.v (x.l ++ [nd52])) = m8 at *
        have HNE := hid hne
        clear hne hm8 HEND HPO HYO HPA HYA HOB HPB HCL HFB HNB HFA HYB HCG HG2 HYL
        have hs8 := tsame_any l m8 _ _ w8 _ _ (HL.out w8 HF8.out) HC8.out
        rw [sameL_ne HNE.out] at hs8
        have HS8 := hid hs8
        clear hs8
        go_wp2_with fail
        refine HS8.out.mono ?_
        rintro e w9 ⟨rfl, hf9⟩
        have HF9 := hid (HF8.out.trans' hf9)
        have hs9 := tsame_any m8 l _ _ w9 _ _ (HC8.out.frame hf9 fun _ _ => id) (HL.out w9 HF9.out)
        rw [sameL_ne (fun e => HNE.out e.symm)] at hs9
        have HS9 := hid hs9
        clear hs9 hf9
        go_wp2_with fail
        refine HS9.out.mono ?_
        rintro e w10 ⟨rfl, hf10⟩
        have HF10 := hid (HF9.out.trans' hf10)
        clear hf10
        go_wp2_with fail
        go_ret
        exact ⟨rfl, HF10.out⟩
end
end Go.Proofs.YteihmagldhmjgaaDoor
