/- inglenookworld.Nodes: it answers, whatever nodes there are. -/
import Derived.Test.YteihmagldhmjgaaDoorTreeF
import Derived.Test.YteihmagldhmjgaaDoorFew
namespace Go.Proofs.YteihmagldhmjgaaDoor
open Go.RowKit

theorem fewI_range (x : V) (left deep : Nat) : -1 ≤ fewI (x.few left deep) ∧ fewI (x.few left deep) ≤ left := by
  have h := x.few_le left deep
  cases hr : x.few left deep with
  | none => simp [fewI]
  | some n =>
    have := h n hr
    simp only [fewI]
    omega
set_option maxRecDepth 100000 in
set_option maxHeartbeats 1600000 in
theorem wnodes_any : ∀ (N : Nat) (l : List Nd), cntL l < N → szL l ≤ 1099511627776 → ∀ (left deep : Nat), left ≤ 1099511627776 → deep ≤ 61 → ∀ (D : Nat → Prop) (w : World) (v : Value), NL D w l v →
    Calls Tryd.prog 39 #[v, .int .i64 left, .int .i64 deep] w fun e w' => (∃ r : Int, e = .returned (.int .i64 r) ∧ -1 ≤ r ∧ r ≤ left) ∧ Fr (fun _ => False) w w' := by
  intro N
  induction N with
  | zero =>
    intro l hN
    omega
  | succ N ih =>
    intro l hN hM left deep hz hd D w v h
    have hll := Nat.le_trans (len_le_cnt l) (cntL_szL l)
    obtain ⟨a, cap, us, rfl, hc, hm, hn, hb, hi⟩ := h
    have hlI : (l.length : Int) ≤ 1099511627776 := by omega
    have hdI : (deep : Int) ≤ 61 := by omega
    have HB := hid hb; have HI := hid hi; have HM := hid hM; have HN := hid hN; have HIH := hid ih
    clear hb hi hM hN hn hll hc hm ih
    go_enter Tryd.func39, Tryd.ntmps39
    go_wp2
    go_loopw [1, 7] (fun lv i wr => ∃ k q : Nat, k ≤ l.length ∧ i = .int .i64 k ∧ lv = .int .i64 q ∧ q ≤ left ∧ Fr (fun _ => False) w wr) (fun _ i _ => l.length - (intOf i).toNat)
    case atStart => exact ⟨0, left, Nat.zero_le _, rfl, rfl, Nat.le_refl _, Fr.refl _ _⟩
    case round =>
      obtain ⟨k, q, hk, rfl, rfl, hq, hf⟩ := hrel
      have HF := hid hf
      by_cases hlt : k < l.length
      · obtain ⟨b, o, y, va, c1, a', c', rfl, -, hy, hv, e0, e1, e2, e3, e4, e5, e6, e7⟩ := NL.elem HB.out HI.out k hlt
        have hlt' : (k : Int) < l.length := by omega
        replace e2 := hf.cell e2 not_false
        replace e3 := hf.cell e3 not_false
        replace e4 := hf.cell e4 not_false
        replace e5 := hf.cell e5 not_false
        replace e6 := hf.cell e6 not_false
        replace e7 := hf.cell e7 not_false
        have t2 := cntL_mem hy
        have t3 := szL_mem hy
        have t4 := Nd.cnt_eq y
        have t5 := Nd.sz_eq y
        have hss : (y.s.size : Int) ≤ 1099511627776 := by have := HM.out; omega
        obtain ⟨va2, vl, he, hyv, hyl⟩ := hv.open
        obtain ⟨rfl, rfl⟩ : va2 = .slice va y.v.l.length c1 ∧ vl = .slice a' y.l.length c' := by simp at he; exact ⟨he.1.symm, he.2.symm⟩
        have hvx : VIn D w y.v #[.int .i64 y.v.k, .int .i64 y.v.n, .string y.v.s, .slice va y.v.l.length c1] := by
          have := hyv.close y.v.k y.v.n y.v.s
          have e : y.v = .mk y.v.k y.v.n y.v.s y.v.l := by cases y.v; rfl
          rw [← e] at this; exact this
        have HFW := hid (fun (z : Nat) (hz : z ≤ 1099511627776) => few_any y.v.size y.v (Nat.le_refl _) D wr _ z 0 (hvx.frame hf fun _ _ => not_false) (by have := HM.out; omega) hz (by omega))
        have HNO := hid (fun (w2 : World) (hf2 : Fr (fun _ => False) w w2) (z : Nat) (hz : z ≤ 1099511627776) (hd2 : deep + 1 ≤ 61) => HIH.out y.l (by have := HN.out; omega) (by have := HM.out; omega) z (deep + 1) hz hd2 D w2 _ (hyl.frame hf2 fun _ _ => not_false))
        have HRG := hid (fun z => fewI_range y.v z 0)
        clear t2 t3 t4 t5 hv hyv hyl he hvx hy hf e0 e1
        by_cases h1 : (q : Int) - 1 - (y.s.size : Int) / 16 < 0
        · go_wp2_with fail
          go_ret
          exact ⟨⟨_, rfl, by omega, by omega⟩, HF.out⟩
        by_cases h2 : (60 : Int) < deep
        · go_wp2_with fail
          go_ret
          exact ⟨⟨_, rfl, by omega, by omega⟩, HF.out⟩
        obtain ⟨z, hz1⟩ : ∃ z : Nat, (q : Int) - 1 - (y.s.size : Int) / 16 = z := ⟨((q : Int) - 1 - (y.s.size : Int) / 16).toNat, by omega⟩
        have hzq : z ≤ q := by omega
        have HZ := hid hz1
        obtain ⟨r, hr⟩ : ∃ r, fewI (y.v.few z 0) = r := ⟨_, rfl⟩
        have hrg := HRG.out z
        have HF1 := hid (HFW.out z (by omega))
        rw [hr] at hrg HF1
        obtain ⟨hrg1, hrg2⟩ := hrg
        clear HFW HRG hz1 hr
        go_upto_region 7 with fail
        rw [HZ.out]
        go_wp2_with fail
        refine HF1.out.mono ?_
        rintro e w2 ⟨rfl, hf2⟩
        have HF2 := hid (HF.out.trans' hf2)
        replace e7 := hf2.cell e7 not_false
        clear hf2 e2 e3 e4 e5 e6 h1
        by_cases h3 : r < 0
        · go_wp2_with fail
          go_ret
          exact ⟨⟨_, rfl, by omega, by omega⟩, HF2.out⟩
        obtain ⟨r2, rfl⟩ : ∃ r2 : Nat, r = r2 := ⟨r.toNat, by omega⟩
        have HN2 := hid (HNO.out w2 HF2.out r2 (by omega) (by omega))
        go_wp2_with fail
        refine HN2.out.mono ?_
        rintro e w3 ⟨⟨r3, rfl, h5, h6⟩, hf3⟩
        have HF3 := hid (HF2.out.trans' hf3)
        clear hf3 e7
        by_cases h7 : r3 < 0
        · go_wp2_with fail
          go_ret
          exact ⟨⟨_, rfl, by omega, by omega⟩, HF3.out⟩
        obtain ⟨r4, rfl⟩ : ∃ r4 : Nat, r3 = r4 := ⟨r3.toNat, by omega⟩
        go_wp2_with fail
        go_roundw
        case rel => exact ⟨k + 1, r4, by omega, by go_num, rfl, by omega, HF3.out⟩
        case measure => simp [intOf]; omega
      · obtain rfl : k = l.length := by omega
        go_wp2
        go_ret
        exact ⟨⟨_, rfl, by omega, by omega⟩, HF.out⟩
theorem wNodes_any (l : List Nd) (hM : szL l ≤ 1099511627776) (n : Nat) (hn : n ≤ 1099511627776) (D : Nat → Prop) (w : World) (v : Value) (h : NL D w l v) :
    Calls Tryd.prog 14 #[v, .int .i64 n] w fun e w' => (∃ b : Bool, e = .returned (.bool b)) ∧ Fr (fun _ => False) w w' := by
  have HC := hid (wnodes_any (cntL l + 1) l (by omega) hM n 0 hn (by omega) D w v h)
  obtain ⟨a, cap, us, rfl, -⟩ := h
  have hnI : (n : Int) ≤ 1099511627776 := by omega
  clear hM hn
  go_enter Tryd.func14, Tryd.ntmps14
  go_wp2_with fail
  refine HC.out.mono ?_
  rintro e w2 ⟨⟨r, rfl, h1, h2⟩, hf2⟩
  go_wp2_with fail
  go_ret
  exact ⟨⟨_, rfl⟩, hf2⟩
end Go.Proofs.YteihmagldhmjgaaDoor
