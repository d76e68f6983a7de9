import Derived.Test.YtbegahbagnflnaaGreatDoorMn07
import Derived.Test.YtbegahbagnflnaaGreatDoorMn23
import Derived.Test.YtbegahbagnflnaaGreatDoorMn12
import Derived.Test.YtbegahbagnflnaaGreatDoorMn19
import Derived.Test.YtbegahbagnflnaaGreatDoorMn22
import Derived.Test.YtbegahbagnflnaaGreatDoorMn01
import Derived.Test.YtbegahbagnflnaaGreatDoorMn18
import Derived.Test.YtbegahbagnflnaaGreatDoorRows
import Derived.ChangeArms
set_option linter.unusedSimpArgs false
set_option linter.unusedVariables false
set_option linter.unnecessarySimpa false
namespace Go.Proofs.YtbegahbagnflnaaGreatDoor
section
open Go.RowKit
theorem fewI_range (x : V) (left deep : Nat) : -1 ≤ fewI (x.few left deep) ∧ fewI (x.few left deep) ≤ left := by
 have h := x.few_le left deep
 cases hr : x.few left deep with
 | none => simp [fewI]
 | some n =>
  have := h n hr
  simp only [fewI]
  omega
set_option maxRecDepth 100000 in
set_option maxHeartbeats 1600000 in
theorem wnodes_any : ∀ (N : Nat) (l : List Nd), cntL l < N → szL l ≤ 1099511627776 → ∀ (left deep : Nat), left ≤ 1099511627776 → deep ≤ 61 → ∀ (D : Nat → Prop) (w : World) (v : Value), NL D w l v →
  Calls Tryz.prog 39 #[v, .int .i64 left, .int .i64 deep] w fun e w' => (∃ r : Int, e = .returned (.int .i64 r) ∧ -1 ≤ r ∧ r ≤ left) ∧ Fr (fun _ => False) w w' := by
 intro N
 induction N with
 | zero =>
  intro l hN
  omega
 | succ N ih =>
  intro l hN hM left deep hz hd D w v h
  have hll := Nat.le_trans (len_le_cnt l) (cntL_szL l)
  obtain ⟨a, cap, us, rfl, hc, hm, hn, hb, hi⟩ := h
  have hlI : (l.length : Int) ≤ 1099511627776 := by omega
  have hdI : (deep : Int) ≤ 61 := by omega
  have HB := hid hb; have HI := hid hi; have HM := hid hM; have HN := hid hN; have HIH := hid ih
  clear hb hi hM hN hn hll hc hm ih
  go_enter Tryz.func39, Tryz.ntmps39
  go_wp2
  go_loopw [1, 7] (fun lv i wr => ∃ k q : Nat, k ≤ l.length ∧ i = .int .i64 k ∧ lv = .int .i64 q ∧ q ≤ left ∧ Fr (fun _ => False) w wr) (fun _ i _ => l.length - (intOf i).toNat)
  case atStart => exact ⟨0, left, Nat.zero_le _, rfl, rfl, Nat.le_refl _, Fr.refl _ _⟩
  case round =>
   obtain ⟨k, q, hk, rfl, rfl, hq, hf⟩ := hrel
   have HF := hid hf
   by_cases hlt : k < l.length
   ·obtain ⟨b, o, y, va, c1, a', c', rfl, -, hy, hv, e0, e1, e2, e3, e4, e5, e6, e7⟩ := NL.elem HB.out HI.out k hlt
    have hlt' : (k : Int) < l.length := by omega
    replace e2 := hf.cell e2 not_false
    replace e3 := hf.cell e3 not_false
    replace e4 := hf.cell e4 not_false
    replace e5 := hf.cell e5 not_false
    replace e6 := hf.cell e6 not_false
    replace e7 := hf.cell e7 not_false
    have t2 := cntL_mem hy
    have t3 := szL_mem hy
    have t4 := Nd.cnt_eq y
    have t5 := Nd.sz_eq y
    have hss : (y.s.size : Int) ≤ 1099511627776 := by have := HM.out; omega
    obtain ⟨va2, vl, he, hyv, hyl⟩ := hv.open
    obtain ⟨rfl, rfl⟩ : va2 = .slice va y.v.l.length c1 ∧ vl = .slice a' y.l.length c' := by simp at he; exact ⟨he.1.symm, he.2.symm⟩
    have hvx : VIn D w y.v #[.int .i64 y.v.k, .int .i64 y.v.n, .string y.v.s, .slice va y.v.l.length c1] := by
     have := hyv.close y.v.k y.v.n y.v.s
     have e : y.v = .mk y.v.k y.v.n y.v.s y.v.l := by cases y.v; rfl
     rw [← e] at this; exact this
    have HFW := hid (fun (z : Nat) (hz : z ≤ 1099511627776) => few_any y.v.size y.v (Nat.le_refl _) D wr _ z 0 (hvx.frame hf fun _ _ => not_false) (by have := HM.out; omega) hz (by omega))
    have HNO := hid (fun (w2 : World) (hf2 : Fr (fun _ => False) w w2) (z : Nat) (hz : z ≤ 1099511627776) (hd2 : deep + 1 ≤ 61) => HIH.out y.l (by have := HN.out; omega) (by have := HM.out; omega) z (deep + 1) hz hd2 D w2 _ (hyl.frame hf2 fun _ _ => not_false))
    have HRG := hid (fun z => fewI_range y.v z 0)
    clear t2 t3 t4 t5 hv hyv hyl he hvx hy hf e0 e1
    by_cases h1 : (q : Int) - 1 - (y.s.size : Int) / 16 < 0
    ·go_wp2_with fail
     go_ret
     exact ⟨⟨_, rfl, by omega, by omega⟩, HF.out⟩
    by_cases h2 : (60 : Int) < deep
    ·go_wp2_with fail
     go_ret
     exact ⟨⟨_, rfl, by omega, by omega⟩, HF.out⟩
    obtain ⟨z, hz1⟩ : ∃ z : Nat, (q : Int) - 1 - (y.s.size : Int) / 16 = z := ⟨((q : Int) - 1 - (y.s.size : Int) / 16).toNat, by omega⟩
    have hzq : z ≤ q := by omega
    have HZ := hid hz1
    obtain ⟨r, hr⟩ : ∃ r, fewI (y.v.few z 0) = r := ⟨_, rfl⟩
    have hrg := HRG.out z
    have HF1 := hid (HFW.out z (by omega))
    rw [hr] at hrg HF1
    obtain ⟨hrg1, hrg2⟩ := hrg
    clear HFW HRG hz1 hr
    go_upto_region 7 with fail
    rw [HZ.out]
    go_wp2_with fail
    refine HF1.out.mono ?_
    rintro e w2 ⟨rfl, hf2⟩
    have HF2 := hid (HF.out.trans' hf2)
    replace e7 := hf2.cell e7 not_false
    clear hf2 e2 e3 e4 e5 e6 h1
    by_cases h3 : r < 0
    ·go_wp2_with fail
     go_ret
     exact ⟨⟨_, rfl, by omega, by omega⟩, HF2.out⟩
    obtain ⟨r2, rfl⟩ : ∃ r2 : Nat, r = r2 := ⟨r.toNat, by omega⟩
    have HN2 := hid (HNO.out w2 HF2.out r2 (by omega) (by omega))
    go_wp2_with fail
    refine HN2.out.mono ?_
    rintro e w3 ⟨⟨r3, rfl, h5, h6⟩, hf3⟩
    have HF3 := hid (HF2.out.trans' hf3)
    clear hf3 e7
    by_cases h7 : r3 < 0
    ·go_wp2_with fail
     go_ret
     exact ⟨⟨_, rfl, by omega, by omega⟩, HF3.out⟩
    obtain ⟨r4, rfl⟩ : ∃ r4 : Nat, r3 = r4 := ⟨r3.toNat, by omega⟩
    go_wp2_with fail
    go_roundw
    case rel => exact ⟨k + 1, r4, by omega, by go_num, rfl, by omega, HF3.out⟩
    case measure => simp [intOf]; omega
   ·obtain rfl : k = l.length := by omega
    go_wp2
    go_ret
    exact ⟨⟨_, rfl, by omega, by omega⟩, HF.out⟩
theorem wNodes_any (l : List Nd) (hM : szL l ≤ 1099511627776) (n : Nat) (hn : n ≤ 1099511627776) (D : Nat → Prop) (w : World) (v : Value) (h : NL D w l v) :
  Calls Tryz.prog 18 #[v, .int .i64 n] w fun e w' => (∃ b : Bool, e = .returned (.bool b)) ∧ Fr (fun _ => False) w w' := by
 have HC := hid (wnodes_any (cntL l + 1) l (by omega) hM n 0 hn (by omega) D w v h)
 obtain ⟨a, cap, us, rfl, -⟩ := h
 have hnI : (n : Int) ≤ 1099511627776 := by omega
 clear hM hn
 go_enter Tryz.func18, Tryz.ntmps18
 go_wp2_with fail
 refine HC.out.mono ?_
 rintro e w2 ⟨⟨r, rfl, h1, h2⟩, hf2⟩
 go_wp2_with fail
 go_ret
 exact ⟨⟨_, rfl⟩, hf2⟩
end
section
open Go.RowKit
theorem field_code (c : Int) (p : Bool) (l : Int) (w : World) : (Instr.field 46 (.agg #[.int .i64 c, .bool p, .int .i64 l, .int .i64 0, .int .i64 0, .string ⟨#[]⟩, .slice none 0 0]) 0).run Tryz.prog w = .ok (.int .i64 c) w := by kernel_rfl
set_option maxRecDepth 100000 in
theorem wprogram_any (l : List Nd) (hM : szL l ≤ 1048576) (n : Nat) (hn : n ≤ 1099511627776) (D : Nat → Prop) (w : World) (v : Value) (h : NL D w l v) :
  Calls Tryz.prog 6 #[v, .int .i64 n] w fun e w' => (∃ b : Bool, e = .returned (.bool b) ∧ (b = true → (pValid l 7).c = 0)) ∧ Fr (fun _ => False) w w' := by
 have HN := hid (wNodes_any l (by omega) n hn D w v h)
 have HV := hid (fun (w2 : World) (hf : Fr (fun _ => False) w w2) => dvalid_any l (by omega) D w2 v (h.frame hf fun _ _ => not_false))
 obtain ⟨a, cap, us, rfl, -⟩ := h
 have hnI : (n : Int) ≤ 1099511627776 := by omega
 clear hM hn
 obtain ⟨pv, hpv⟩ : ∃ pv, pValid l 7 = pv := ⟨_, rfl⟩
 rw [hpv] at HV ⊢
 clear hpv
 obtain ⟨fc, fp, fl⟩ := pv
 unfold faultF faultV at HV
 simp only at HV ⊢
 go_enter Tryz.func6, Tryz.ntmps6
 go_wp2_with fail
 refine HN.out.mono ?_
 rintro e w2 ⟨⟨b, rfl⟩, hf2⟩
 have HF2 := hid hf2
 clear hf2
 cases b
 ·go_wp2_with fail
  go_ret
  exact ⟨⟨false, rfl, fun h => by cases h⟩, HF2.out⟩
 ·go_wp2_with fail
  refine (HV.out w2 HF2.out).mono ?_
  rintro e w3 ⟨rfl, hf3⟩
  have HF3 := hid (HF2.out.trans' hf3)
  have hfd := field_code fc fp fl w3
  clear hf3
  go_wp2_with fail
  go_ret
  exact ⟨⟨_, rfl, fun h => by simp at h; omega⟩, HF3.out⟩
end
section
open Go.RowKit
theorem Sent17.boundB {w : World} {pa : Nat → Addr} (h : Sent17 w pa) : sentB ≤ w.heap.size := Sents.bound h.s
theorem num_in (p : Int) (n : Nat) (hn : 0 < n) : ∃ P : Nat, p % (n : Int) = P ∧ P < n := by
 have h1 := Int.emod_nonneg p (show (n : Int) ≠ 0 by omega)
 have h2 := Int.emod_lt_of_pos p (show (0 : Int) < n by omega)
 exact ⟨(p % (n : Int)).toNat, by omega, by omega⟩
theorem sealed_len (l : List Nd) (h : szL l ≤ 1048576) : 4 ≤ (sealB (encL l)).length ∧ (sealB (encL l)).length ≤ 27263000 := by
 have := encL_sz l
 have := seal_len (encL l)
 have e : (sealB (encL l)).length = (encL l).length + 4 := this
 omega
set_option maxRecDepth 100000 in
set_option maxHeartbeats 6400000 in
theorem codeBytes_any (pa : Nat → Addr) (v : Value) (l : List Nd) (at_ cut : Int) (by_ : Nat) (w : World) (h : NL (fun _ => True) w l v) (hl : szL l ≤ 1048576) (hr : RngL l) (a1 : -9223372036854775808 ≤ at_) (a2 : at_ ≤ 9223372036854775807) (c1 : -9223372036854775808 ≤ cut) (c2 : cut ≤ 9223372036854775807) (hby : by_ < 256) (hE : Sent17 w pa) :
  Calls Tryz.prog 3 #[v, .int .i64 at_, .int .i64 cut, .int .u8 by_] w fun e w' => e = .returned (.bool true) ∧ Fr (fun _ => False) w w' := by
 have hg := Nat.le_trans sgb_le hE.boundB
 have HFI := hid (cfirst_any pa w hE.five hg)
 have HPR := hid (fun (w2 : World) (hf : Fr (fun _ => False) w w2) => wprogram_any l hl 500 (by decide) _ w2 v (h.frame hf fun _ _ => not_false))
 have HCO := hid (fun (w2 : World) (hf : Fr (fun _ => False) w w2) => compile_any pa l hl _ w2 v (h.frame hf fun _ _ => not_false) (hE.five.frame hf) (Nat.le_trans hg hf.size))
 have HNS := hid (fun (w2 : World) (hf : Fr (fun _ => False) w w2) (v2 : Value) (h2 : NL (fun _ => True) w2 l v2) => nsames_refl l _ _ w2 _ _ h2 (h.frame hf fun _ _ => not_false))
 have HE := hid hE
 have HZ := hid hl; have HR := hid hr; have HBY := hid hby
 have HSL := hid (sealed_len l hl)
 have HSR := hid (fun (hc : (pValid l 7).c = 0) => show sumR 7 l ≤ 28672 by have := sumR_le l; have := (pValid_ok hc).2.1; omega)
 have HA := hid a1; have HA2 := hid a2; have HC1 := hid c1; have HC2 := hid c2
 obtain ⟨a, cap, us, rfl, -⟩ := id h
 clear h hl hr hby hE hg a1 a2 c1 c2
 go_enter Tryz.func3, Tryz.ntmps3
 go_wp2_with fail
 refine HFI.out.mono ?_
 rintro e w1 ⟨rfl, hf1⟩
 have HF1 := hid hf1
 clear hf1 HFI
 go_wp2_with fail
 refine (HPR.out w1 HF1.out).mono ?_
 rintro e w2 ⟨⟨b, rfl, hb⟩, hf2⟩
 have HF2 := hid (HF1.out.trans' hf2)
 clear hf2 HPR
 cases b
 ·go_wp2_with fail
  go_ret
  exact ⟨rfl, HF2.out⟩
 have HV := hid (hb rfl)
 clear hb
 go_wp2_with fail
 refine (HCO.out w2 HF2.out).mono ?_
 rintro e w3 ⟨r, ev, rfl, hf3, -, ⟨-, rfl, K, rfl, hbox⟩ | ⟨hc, -⟩⟩
 case inr => exact absurd HV.out hc
 have HF3 := hid (HF2.out.trans' hf3)
 have HBX := hid hbox
 have HS := hid (HSR.out HV.out)
 have HFL := hid (flat_of HV.out (by have := HZ.out; omega))
 have HEL := hid (show (encL l).length ≤ 1073741000 by have := encL_sz l; have := HZ.out; omega)
 have HB3 := hid (cbytes_any hbox HFL.out HEL.out)
 clear hf3 hbox HCO
 go_wp2_with fail
 refine HB3.out.mono ?_
 rintro e w4 ⟨v4, rfl, ho4, hf4⟩
 have HF4 := hid (HF3.out.trans' hf4)
 have HX4 := hid (HBX.out.fr hf4)
 have HRS := hid (read_sealed HV.out HR.out)
 have HCUT := hid (fun (k : Nat) (hk : k < (sealB (encL l)).length) => And.intro (read_cut HV.out HR.out k hk) (fun h0 => cut_no HV.out HR.out k hk h0))
 have HSP := hid (fun (p : Nat) (hp : p < (sealB (encL l)).length) (x : UInt8) (hx : x ≠ 0) => And.intro (read_spoilt (encL l) p hp x hx) (spoilt (encL l) p hp x hx))
 have HOPN := hid (seal_opens (encL l))
 have HRP := hid (show (rProg (openB (sealB (encL l))).1 ⟨0, true⟩).2.ok = true → szL (rProg (openB (sealB (encL l))).1 ⟨0, true⟩).1 ≤ 1048576 by
  intro hok
  have h1 := HRS.out
  unfold readS at h1
  by_cases hc : (openB (sealB (encL l))).2 = 0 ∧ (rProg (openB (sealB (encL l))).1 ⟨0, true⟩).2.ok = true ∧ (rProg (openB (sealB (encL l))).1 ⟨0, true⟩).2.at_ = (openB (sealB (encL l))).1.length ∧ sealB (encL (rProg (openB (sealB (encL l))).1 ⟨0, true⟩).1) = sealB (encL l)
  ·rw [if_pos hc] at h1
   rw [congrArg Prod.fst h1]
   exact HZ.out
  ·rw [if_neg hc] at h1
   cases h1)
 generalize hbb : sealB (encL l) = b at *
 have HO4 := hid ho4
 obtain ⟨a4, c4, rfl⟩ := ho4.len
 have HRD := hid (cread_any _ pa _ b w4 (HO4.out.bs) (by have := HSL.out; omega) (fun _ => HRP.out) (HE.out.s.frame HF4.out))
 rw [HRS.out] at HRD
 have hbl : (b.length : Int) ≤ 27263000 := by have := HSL.out; omega
 have hb4 : ¬ ((b.length : Int) < 4) := by have := HSL.out; omega
 clear ho4 hf4 HB3 HBX
 go_wp2_with fail
 refine HRD.out.mono ?_
 rintro e w5 ⟨r, ev, rfl, hf5, ⟨-, rfl, -, -, -, K2, rfl, hbox⟩ | ⟨hc, -⟩⟩
 case inr => cases hc
 have HF5 := hid (HF4.out.trans' hf5)
 have HX5 := hid (HX4.out.fr hf5)
 have HO5 := hid (HO4.out.bs.frame hf5 fun _ _ => not_false)
 have HY5 := hid hbox
 have HBY5 := hid (cbytes_any hbox HFL.out HEL.out)
 rw [hbb] at HBY5
 clear hf5 hbox HRD HX4
 go_wp2_with fail
 refine HBY5.out.mono ?_
 rintro e w6 ⟨v6, rfl, ho6, hf6⟩
 have HF6 := hid (HF5.out.trans' hf6)
 have HX6 := hid (HX5.out.fr hf6)
 have HY6 := hid (HY5.out.fr hf6)
 have HO6 := hid (HO5.out.frame hf6 fun _ _ => not_false)
 obtain ⟨a6, c6, rfl⟩ := ho6.len
 have HSB := hid (sameBytes_any _ _ _ _ b b w6 ho6.bs HO6.out)
 clear ho6 hf6 HBY5 HX5 HY5
 go_wp2_with fail
 refine HSB.out.mono ?_
 rintro e w7 ⟨rfl, n7, hw7⟩
 have hf7 : Fr (fun _ => False) w6 w7 := by rw [← hw7]; exact (Fr.refl _ _).drewN _
 have HF7 := hid (HF6.out.trans' hf7)
 have HO7 := hid (HO6.out.frame hf7 fun _ _ => not_false)
 have HX7 := hid (HX6.out.fr hf7)
 have HY7 := hid (HY6.out.fr hf7)
 have HLE := hid (clen_any HY7.out)
 clear hf7 hw7 HSB HX6 HY6
 go_wp2_with fail
 refine HLE.out.mono ?_
 rintro e w8 ⟨rfl, hf8⟩
 have HF8 := hid (HF7.out.trans' hf8)
 have HO8 := hid (HO7.out.frame hf8 fun _ _ => not_false)
 have HX8 := hid (HX7.out.fr hf8)
 have HY8 := hid (HY7.out.fr hf8)
 have HLE2 := hid (clen_any HX8.out)
 clear hf8 HLE HX7 HY7
 go_wp2_with fail
 refine HLE2.out.mono ?_
 rintro e w9 ⟨rfl, hf9⟩
 have HF9 := hid (HF8.out.trans' hf9)
 have HO9 := hid (HO8.out.frame hf9 fun _ _ => not_false)
 have HY9 := hid (HY8.out.fr hf9)
 have HSC := hid (csource_any HY9.out (by have := HZ.out; omega))
 have hnn : (((sumR 7 l + 2 : Nat) : Int) != ((sumR 7 l + 2 : Nat) : Int)) = false := by rw [bne_eq_false_iff_eq]
 clear hf9 HLE2 HX8 HY8
 go_wp2_with fail
 refine HSC.out.mono ?_
 rintro e w10 ⟨v10, rfl, hn10, hf10⟩
 have HF10 := hid (HF9.out.trans' hf10)
 have HO10 := hid (HO9.out.frame hf10 fun _ _ => not_false)
 have HY10 := hid (HY9.out.fr hf10)
 have HN10 := hid (HNS.out w10 HF10.out _ hn10)
 obtain ⟨a10, c10, u10, rfl, -⟩ := id hn10
 clear hf10 hn10 HSC HY9
 go_wp2_with fail
 refine HN10.out.mono ?_
 rintro e w11 ⟨rfl, hf11⟩
 have HF11 := hid (HF10.out.trans' hf11)
 have HO11 := hid (HO10.out.frame hf11 fun _ _ => not_false)
 have HCK := hid (ccheck_any (HY10.out.fr hf11) (by have := HS.out; omega))
 clear hf11 HN10 HY10
 go_wp2_with (at_builtin; fail)
 refine HCK.out.mono ?_
 rintro e w12 ⟨rfl, hf12⟩
 have HF12 := hid (HF11.out.trans' hf12)
 have HO12 := hid (HO11.out.frame hf12 fun _ _ => not_false)
 clear hf12 HCK
 obtain ⟨k, hk1, hk2⟩ := num_in cut b.length (by have := HSL.out; omega)
 have HNU := hid (number_any cut b.length w12 (by have := HSL.out; omega) (by have := HSL.out; omega) HC1.out HC2.out)
 rw [hk1] at HNU
 obtain ⟨a9, c9, e9, hlc, hcm, -⟩ := id HO12.out
 simp only [Value.slice.injEq, true_and] at e9
 obtain ⟨rfl, rfl⟩ := e9
 have hkc : (k : Int) ≤ c4 := by omega
 have hkI : (k : Int) ≤ 27263000 := by omega
 have HK := hid hk2
 have HUP := hid (HO12.out.upto k (by omega))
 have HRC := hid (cread_any _ pa _ (b.take k) w12 HUP.out (by rw [List.length_take]; have := HSL.out; omega) (fun h0 hok => by rw [(HCUT.out k hk2).2 h0] at hok; cases hok) (HE.out.s.frame HF12.out))
 have htl : (b.take k).length = k := by rw [List.length_take]; omega
 clear hk1 hk2 hlc hcm htl
 go_wp2_with (at_builtin; fail)
 refine HNU.out.mono ?_
 rintro e w13 ⟨rfl, rfl⟩
 go_wp2_with (at_builtin; fail)
 refine HRC.out.mono ?_
 rintro e w13 ⟨r, ev, rfl, hf13, ⟨hc, -⟩ | ⟨-, rfl, rfl⟩⟩
 ·rw [(HCUT.out k HK.out).1] at hc; cases hc
 have HF13 := hid (HF12.out.trans' hf13)
 have HO13 := hid (HO12.out.frame hf13 fun _ _ => not_false)
 obtain ⟨xe, hxe⟩ : ∃ x, errV pa (if (openB (b.take k)).2 = 0 then 103 else 102) = .iface 200 x := by
  split
  ·exact ⟨_, rfl⟩
  ·exact ⟨_, rfl⟩
 rw [hxe]
 clear hf13 hxe HRC HNU HUP hkc hkI
 by_cases hb0 : by_ = 0
 ·subst hb0
  go_wp2_with fail
  go_ret
  exact ⟨rfl, HF13.out⟩
 have hbI : ((by_ : Int) == 0) = false := by rw [beq_eq_false_iff_ne]; omega
 have HB0 := hid hb0
 have HBC := hid (bytes_any _ _ b w13 HO13.out (by have := HSL.out; omega))
 clear hb0
 go_wp2_with fail
 refine HBC.out.mono ?_
 rintro e w14 ⟨v14, rfl, ho14, hf14⟩
 have HF14 := hid (HF13.out.trans' hf14)
 obtain ⟨g, cg, rfl, hg1, hg2⟩ := ho14.addr (by have := HSL.out; omega)
 obtain ⟨p, hp1, hp2⟩ := num_in at_ b.length (by have := HSL.out; omega)
 have HNA := hid (number_any at_ b.length w14 (by have := HSL.out; omega) (by have := HSL.out; omega) HA.out HA2.out)
 rw [hp1] at HNA
 obtain ⟨hcl, hfz⟩ := ho14.cell p hp2
 have hxor : bits BinOp.xor IntKind.u8 ((b.getD p 0).toNat : Int) (by_ : Int) = (((b.getD p 0) ^^^ UInt8.ofNat by_).toNat : Int) := by
  rw [u8_xor_nat _ _ (b.getD p 0).toNat_lt HBY.out, UInt8.toNat_xor]
  congr 2
  have := HBY.out
  simp
  omega
 have HX := hid (show UInt8.ofNat by_ ≠ 0 by
  intro e
  have h1 := congrArg UInt8.toNat e
  have := HBY.out
  have := HB0.out
  simp at h1
  omega)
 have HST := hid (ho14.set p hp2 ((b.getD p 0) ^^^ UInt8.ofNat by_))
 have HSS := hid (HSP.out p hp2 (UInt8.ofNat by_) HX.out)
 have HFS := hid (HF14.out.setCell (p := ⟨g, p, none⟩) (.inr (by have := HF13.out.size; show w.heap.size ≤ g; omega)) (.int .u8 ((b.getD p 0) ^^^ UInt8.ofNat by_).toNat))
 have hpI : (p : Int) < b.length := by omega
 clear ho14 hf14 hp1 hg1 hg2 HBC
 unfold spoil at HSS
 have HRE := hid (cread_any _ pa _ (b.set p (b.getD p 0 ^^^ UInt8.ofNat by_)) _ HST.out.bs (by rw [List.length_set]; have := HSL.out; omega) (fun h0 => by rw [HSS.out.2] at h0; exact absurd h0 (by decide)) (HE.out.s.frame HFS.out))
 generalize b.getD p 0 = z at *
 generalize hxb : b.set p (z ^^^ UInt8.ofNat by_) = b2 at *
 have HLB := hid (show b2.length = b.length by rw [← hxb, List.length_set])
 clear hxb
 have hxz : ((z ^^^ UInt8.ofNat by_).toNat : Int) = (z ^^^ UInt8.ofNat by_).toNat := rfl
 generalize z ^^^ UInt8.ofNat by_ = y at *
 clear hxz
 go_wp2_with (at_builtin; fail)
 refine HNA.out.mono ?_
 rintro e w15 ⟨rfl, rfl⟩
 go_upto_region 20 with (at_builtin; fail)
 generalize w14.setCell ⟨g, p, none⟩ (.int .u8 y.toNat) = w16 at *
 clear hxor hcl hfz
 go_wp2_with (at_builtin; fail)
 refine HRE.out.mono ?_
 rintro e w17 ⟨r, ev, rfl, hf17, ⟨hc, -⟩ | ⟨-, rfl, rfl⟩⟩
 ·rw [HSS.out.1] at hc; cases hc
 have HF17 := hid (HFS.out.trans' hf17)
 have h102 : errV pa (if (openB b2).2 = 0 then 103 else 102) = .iface 200 (.pointer (some (pa 1))) := by
  rw [if_neg (by rw [HSS.out.2]; decide)]
  rfl
 have HIS := hid (is_num w17 pa (HE.out.frame HF17.out) 102 (.inr ⟨by decide, by decide⟩) 102)
 have h0 : errV pa 102 = .iface 200 (.pointer (some (pa 1))) := rfl
 rw [h0] at HIS
 rw [h102]
 clear hf17 h102 h0 HRE
 go_wp2_with fail
 refine HIS.out.mono ?_
 rintro e w18 ⟨rfl, hf18⟩
 have HF18 := hid (HF17.out.trans' hf18)
 clear hf18 HIS
 go_wp2_with fail
 go_ret
 exact ⟨rfl, HF18.out⟩
end
section
open Go.ChangeShapes Go.WideShapes Go.ChangeAt Go.RowKit
def in64 (n : Int) : Prop := -9223372036854775808 ≤ n ∧ n ≤ 9223372036854775807
mutual
def V.wf : V → Prop
 | .mk k n _ l => in64 k ∧ in64 n ∧ wfL l
def wfL : List V → Prop
 | [] => True
 | x :: r => V.wf x ∧ wfL r
end
theorem wfL_of : ∀ (l : List V), (∀ (i : Nat) (x : V), l[i]? = some x → x.wf) → wfL l
 | [], _ => trivial
 | x :: r, h => ⟨h 0 x rfl, wfL_of r fun i y hy => h (i + 1) y (by simpa using hy)⟩
section
variable {H : Type} {enc : TypeId × Value → H}
theorem bulkAll_le : ∀ (l : List V) (ds : List (DataW H)), l.length = ds.length → (∀ (i : Nat) (x : V) (d : DataW H), l[i]? = some x → ds[i]? = some d → x.size ≤ Rows.uptoBulk d) → sizeL l ≤ Rows.uptoBulkAll ds
 | [], [], _, _ => by simp [sizeL]
 | [], _ :: _, h, _ => by simp at h
 | _ :: _, [], h, _ => by simp at h
 | x :: r, d :: ds, h, hp => by
  have h1 := hp 0 x d rfl rfl
  have h2 := bulkAll_le r ds (by simpa using h) (fun i y e hy he => hp (i + 1) y e (by simpa using hy) (by simpa using he))
  simp only [sizeL, Rows.uptoBulkAll]
  omega
def ValueOpen (enc : TypeId × Value → H) (W : World) (fuel : Nat) : Prop :=
 ∀ (cs : List Value) (y : DataW H × List MemPlace), DataW.trod enc Tryz.prog W 0 (fun _ => true) true fuel 44 cs = some y →
  ∃ (x : V) (u : Array Value), cs = u.toList ∧ VIn (fun _ => True) W x u ∧ x.size ≤ Rows.uptoBulk y.1 ∧ x.wf
theorem cells_api : Tryz.prog.cellsOf 44 = 4 := by kernel_rfl
theorem vin_size {D : Nat → Prop} {w : World} {x : V} {u : Array Value} (h : VIn D w x u) : u.size = 4 := by
 obtain ⟨v, rfl, _⟩ := h.open
 rfl
set_option maxRecDepth 100000 in
theorem open_slice {W : World} {fuel : Nat} (ih : ∀ m, m < fuel → ValueOpen enc W m) {cs : List Value} {y : DataW H × List MemPlace} (h : DataW.trod enc Tryz.prog W 0 (fun _ => true) true fuel 42 cs = some y) :
  ∃ (l : List V) (v : Value), cs = [v] ∧ VL (fun _ => True) W l v ∧ sizeL l ≤ Rows.uptoBulk y.1 ∧ wfL l := by
 rcases DataW.trod_slice Tryz.underlying42 h with ⟨rfl, rfl⟩ | ⟨a, len, cap, elems, rest, n, rfl, rfl, rfl, -, hl, hm, hel, hin, -⟩
 ·exact ⟨[], _, rfl, VL.nil _ _, by simp [sizeL], trivial⟩
 ·have hspot : 0 < len → a.spot = none := by
   intro h0
   have h1 := hin 0 h0
   rw [List.getElem?_eq_getElem (by omega), cells_api] at h1
   obtain ⟨cs', hcells, -⟩ := Option.bind_eq_some_iff.1 h1
   obtain ⟨-, hcl, hcell⟩ := World.cells?_some hcells
   have h2 := hcell 0 (by omega)
   rw [List.getElem?_eq_getElem (by omega)] at h2
   simpa [Addr.add] using World.cell?_spot h2
  have key : ∀ i, i < len → ∃ (x : V) (u : Array Value) (e : DataW H × List MemPlace), elems[i]? = some e ∧ (∃ b o, some a = some (⟨b, o, none⟩ : Addr) ∧ ∀ j, j < 4 → W.cell? ⟨b, o + i * 4 + j, none⟩ = u[j]?) ∧ VIn (fun _ => True) W x u ∧ x.size ≤ Rows.uptoBulk e.1 ∧ x.wf := by
   intro i hi
   have h1 := hin i hi
   have h2 : elems[i]? = some elems[i] := List.getElem?_eq_getElem (by omega)
   rw [h2, cells_api] at h1
   obtain ⟨cs', hcells, htr⟩ := Option.bind_eq_some_iff.1 h1
   obtain ⟨-, hcl, hcell⟩ := World.cells?_some hcells
   obtain ⟨x, u, rfl, hv, hs, hw⟩ := ih n (by omega) cs' _ htr
   obtain ⟨b, o, sp⟩ := a
   have hsp : sp = none := hspot (by omega)
   subst hsp
   refine ⟨x, u, elems[i], h2, ⟨b, o, rfl, fun j hj => ?_⟩, hv, hs, hw⟩
   have := hcell j hj
   rw [addr_add, addr_add] at this
   simpa using this
  obtain ⟨f, us, es, hf⟩ : ∃ (f : Nat → V) (us : Nat → Array Value) (es : Nat → DataW H × List MemPlace), ∀ i, i < len → elems[i]? = some (es i) ∧ (∃ b o, some a = some (⟨b, o, none⟩ : Addr) ∧ ∀ j, j < 4 → W.cell? ⟨b, o + i * 4 + j, none⟩ = (us i)[j]?) ∧ VIn (fun _ => True) W (f i) (us i) ∧ (f i).size ≤ Rows.uptoBulk (es i).1 ∧ (f i).wf := by
   classical
   refine ⟨fun i => if h : i < len then (key i h).choose else .mk 0 0 ⟨#[]⟩ [], fun i => if h : i < len then (key i h).choose_spec.choose else #[], fun i => if h : i < len then (key i h).choose_spec.choose_spec.choose else (.nil, []), fun i hi => ?_⟩
   simp only [dif_pos hi]
   exact (key i hi).choose_spec.choose_spec.choose_spec
  have hlen : ((List.range len).map f).length = len := by simp
  have hget : ∀ i x, ((List.range len).map f)[i]? = some x → i < len ∧ x = f i := by
   intro i x hx
   have hi : i < len := by simpa using (List.getElem?_eq_some_iff.1 hx).1
   rw [List.getElem?_map, List.getElem?_range hi] at hx
   exact ⟨hi, (Option.some.inj hx).symm⟩
  refine ⟨(List.range len).map f, _, rfl, ⟨some a, cap, us, by rw [hlen], by rw [hlen]; exact hl, hm, (fun h => by cases h), fun i hi => ?_, fun i x hx => ?_⟩, ?_, ?_⟩
  ·rw [hlen] at hi
   obtain ⟨-, ⟨b, o, e, hc⟩, hv, -⟩ := hf i hi
   exact ⟨b, o, e, trivial, vin_size hv, hc⟩
  ·obtain ⟨hi, rfl⟩ := hget i x hx
   exact (hf i hi).2.2.1
  ·have := bulkAll_le ((List.range len).map f) (elems.map (·.1)) (by simp [hel]) (fun i x d hx hd => by
    obtain ⟨hi, rfl⟩ := hget i x hx
    obtain ⟨he, -, -, hs, -⟩ := hf i hi
    rw [List.getElem?_map, he] at hd
    simp at hd
    subst hd
    exact hs)
   simp only [Rows.uptoBulk]
   omega
  ·exact wfL_of _ fun i x hx => by
    obtain ⟨hi, rfl⟩ := hget i x hx
    exact (hf i hi).2.2.2.2
theorem i64_wf {n : Int} (h : (Lit.int .i64 n).wf = true) : in64 n := i64_of_wf h
set_option maxRecDepth 100000 in
theorem open_value (W : World) : ∀ fuel, ValueOpen enc W fuel := by
 intro fuel
 induction fuel using Nat.strongRecOn with
 | _ fuel ih =>
  intro cs y h
  obtain ⟨xs, m, rfl, rfl, hl, hlen, hf⟩ := DataW.trod_struct Tryz.underlying44 h
  rw [cells_api] at hl
  match xs, hlen, cs, hl with
  | [y0, y1, y2, y3], _, [v0, v1, v2, v3], _ =>
   have g0 := hf 0 _ rfl
   have g1 := hf 1 _ rfl
   have g2 := hf 2 _ rfl
   have g3 := hf 3 _ rfl
   have g0 : DataW.trod enc Tryz.prog W 0 (fun _ => true) true m 3 [v0] = some y0 := g0
   have g1 : DataW.trod enc Tryz.prog W 0 (fun _ => true) true m 2 [v1] = some y1 := g1
   have g2 : DataW.trod enc Tryz.prog W 0 (fun _ => true) true m 9 [v2] = some y2 := g2
   have g3 : DataW.trod enc Tryz.prog W 0 (fun _ => true) true m 42 [v3] = some y3 := g3
   obtain ⟨k, e0, rfl, w0⟩ := DataW.trod_int Tryz.underlying3 g0
   obtain ⟨n, e1, rfl, w1⟩ := DataW.trod_int Tryz.underlying2 g1
   obtain ⟨s, e2, rfl, -⟩ := DataW.trod_string Tryz.underlying9 g2
   obtain ⟨l, v, e3, hv, hs, hw⟩ := open_slice (fun j hj => ih j (by omega)) g3
   obtain rfl : v0 = Value.int .i64 k := (List.cons.inj (show [v0] = [Value.int .i64 k] from e0)).1
   obtain rfl : v1 = Value.int .i64 n := (List.cons.inj (show [v1] = [Value.int .i64 n] from e1)).1
   obtain rfl : v2 = Value.string s := (List.cons.inj (show [v2] = [Value.string s] from e2)).1
   obtain rfl : v3 = v := (List.cons.inj (show [v3] = [v] from e3)).1
   refine ⟨.mk k n s l, _, rfl, hv.close k n s, ?_, i64_wf w0, i64_wf w1, hw⟩
   simp only [List.map_cons, List.map_nil, Rows.uptoBulk, Rows.uptoBulkAll, V.size]
   have : s.data.toList.length = s.size := by rw [Array.length_toList]; rfl
   omega
end
end
section
open Go.ChangeShapes Go.WideShapes Go.ChangeAt Go.RowKit
mutual
def Nd.wf : Nd → Prop
 | .mk op ln _ v l => in64 op ∧ in64 ln ∧ v.wf ∧ nwfL l
def nwfL : List Nd → Prop
 | [] => True
 | x :: r => Nd.wf x ∧ nwfL r
end
theorem nwfL_of : ∀ (l : List Nd), (∀ (i : Nat) (x : Nd), l[i]? = some x → x.wf) → nwfL l
 | [], _ => trivial
 | x :: r, h => ⟨h 0 x rfl, nwfL_of r fun i y hy => h (i + 1) y (by simpa using hy)⟩
section
variable {H : Type} {enc : TypeId × Value → H}
theorem bulkAllN_le : ∀ (l : List Nd) (ds : List (DataW H)), l.length = ds.length → (∀ (i : Nat) (x : Nd) (d : DataW H), l[i]? = some x → ds[i]? = some d → x.sz ≤ Rows.uptoBulk d) → szL l ≤ Rows.uptoBulkAll ds
 | [], [], _, _ => by simp [szL]
 | [], _ :: _, h, _ => by simp at h
 | _ :: _, [], h, _ => by simp at h
 | x :: r, d :: ds, h, hp => by
  have h1 := hp 0 x d rfl rfl
  have h2 := bulkAllN_le r ds (by simpa using h) (fun i y e hy he => hp (i + 1) y e (by simpa using hy) (by simpa using he))
  simp only [szL, Rows.uptoBulkAll]
  omega
def NodeOpen (enc : TypeId × Value → H) (W : World) (fuel : Nat) : Prop :=
 ∀ (cs : List Value) (y : DataW H × List MemPlace), DataW.trod enc Tryz.prog W 0 (fun _ => true) true fuel 75 cs = some y →
  ∃ (x : Nd) (u : Array Value), cs = u.toList ∧ NIn (fun _ => True) W x u ∧ x.sz ≤ Rows.uptoBulk y.1 ∧ x.wf
theorem cells_node : Tryz.prog.cellsOf 75 = 8 := by kernel_rfl
theorem nin_size {D : Nat → Prop} {w : World} {x : Nd} {u : Array Value} (h : NIn D w x u) : u.size = 8 := by
 obtain ⟨va, v, rfl, _⟩ := h.open
 rfl
set_option maxRecDepth 100000 in
theorem open_nodes {W : World} {fuel : Nat} (ih : ∀ m, m < fuel → NodeOpen enc W m) {cs : List Value} {y : DataW H × List MemPlace} (h : DataW.trod enc Tryz.prog W 0 (fun _ => true) true fuel 22 cs = some y) :
  ∃ (l : List Nd) (v : Value), cs = [v] ∧ NL (fun _ => True) W l v ∧ szL l ≤ Rows.uptoBulk y.1 ∧ nwfL l := by
 rcases DataW.trod_slice Tryz.underlying22 h with ⟨rfl, rfl⟩ | ⟨a, len, cap, elems, rest, n, rfl, rfl, rfl, -, hl, hm, hel, hin, -⟩
 ·exact ⟨[], _, rfl, NL.nil _ _, by simp [szL], trivial⟩
 ·have hspot : 0 < len → a.spot = none := by
   intro h0
   have h1 := hin 0 h0
   rw [List.getElem?_eq_getElem (by omega), cells_node] at h1
   obtain ⟨cs', hcells, -⟩ := Option.bind_eq_some_iff.1 h1
   obtain ⟨-, hcl, hcell⟩ := World.cells?_some hcells
   have h2 := hcell 0 (by omega)
   rw [List.getElem?_eq_getElem (by omega)] at h2
   simpa [Addr.add] using World.cell?_spot h2
  have key : ∀ i, i < len → ∃ (x : Nd) (u : Array Value) (e : DataW H × List MemPlace), elems[i]? = some e ∧ (∃ b o, some a = some (⟨b, o, none⟩ : Addr) ∧ ∀ j, j < 8 → W.cell? ⟨b, o + i * 8 + j, none⟩ = u[j]?) ∧ NIn (fun _ => True) W x u ∧ x.sz ≤ Rows.uptoBulk e.1 ∧ x.wf := by
   intro i hi
   have h1 := hin i hi
   have h2 : elems[i]? = some elems[i] := List.getElem?_eq_getElem (by omega)
   rw [h2, cells_node] at h1
   obtain ⟨cs', hcells, htr⟩ := Option.bind_eq_some_iff.1 h1
   obtain ⟨-, hcl, hcell⟩ := World.cells?_some hcells
   obtain ⟨x, u, rfl, hv, hs, hw⟩ := ih n (by omega) cs' _ htr
   obtain ⟨b, o, sp⟩ := a
   have hsp : sp = none := hspot (by omega)
   subst hsp
   refine ⟨x, u, elems[i], h2, ⟨b, o, rfl, fun j hj => ?_⟩, hv, hs, hw⟩
   have := hcell j hj
   rw [addr_add, addr_add] at this
   simpa using this
  obtain ⟨f, us, es, hf⟩ : ∃ (f : Nat → Nd) (us : Nat → Array Value) (es : Nat → DataW H × List MemPlace), ∀ i, i < len → elems[i]? = some (es i) ∧ (∃ b o, some a = some (⟨b, o, none⟩ : Addr) ∧ ∀ j, j < 8 → W.cell? ⟨b, o + i * 8 + j, none⟩ = (us i)[j]?) ∧ NIn (fun _ => True) W (f i) (us i) ∧ (f i).sz ≤ Rows.uptoBulk (es i).1 ∧ (f i).wf := by
   classical
   refine ⟨fun i => if h : i < len then (key i h).choose else .mk 0 0 ⟨#[]⟩ (.mk 0 0 ⟨#[]⟩ []) [], fun i => if h : i < len then (key i h).choose_spec.choose else #[], fun i => if h : i < len then (key i h).choose_spec.choose_spec.choose else (.nil, []), fun i hi => ?_⟩
   simp only [dif_pos hi]
   exact (key i hi).choose_spec.choose_spec.choose_spec
  have hlen : ((List.range len).map f).length = len := by simp
  have hget : ∀ i x, ((List.range len).map f)[i]? = some x → i < len ∧ x = f i := by
   intro i x hx
   have hi : i < len := by simpa using (List.getElem?_eq_some_iff.1 hx).1
   rw [List.getElem?_map, List.getElem?_range hi] at hx
   exact ⟨hi, (Option.some.inj hx).symm⟩
  refine ⟨(List.range len).map f, _, rfl, ⟨some a, cap, us, by rw [hlen], by rw [hlen]; exact hl, hm, (fun h => by cases h), fun i hi => ?_, fun i x hx => ?_⟩, ?_, ?_⟩
  ·rw [hlen] at hi
   obtain ⟨-, ⟨b, o, e, hc⟩, hv, -⟩ := hf i hi
   exact ⟨b, o, e, trivial, nin_size hv, hc⟩
  ·obtain ⟨hi, rfl⟩ := hget i x hx
   exact (hf i hi).2.2.1
  ·have := bulkAllN_le ((List.range len).map f) (elems.map (·.1)) (by simp [hel]) (fun i x d hx hd => by
    obtain ⟨hi, rfl⟩ := hget i x hx
    obtain ⟨he, -, -, hs, -⟩ := hf i hi
    rw [List.getElem?_map, he] at hd
    simp at hd
    subst hd
    exact hs)
   simp only [Rows.uptoBulk]
   omega
  ·exact nwfL_of _ fun i x hx => by
    obtain ⟨hi, rfl⟩ := hget i x hx
    exact (hf i hi).2.2.2.2
set_option maxRecDepth 100000 in
theorem open_node (W : World) : ∀ fuel, NodeOpen enc W fuel := by
 intro fuel
 induction fuel using Nat.strongRecOn with
 | _ fuel ih =>
  intro cs y h
  obtain ⟨xs, m, rfl, rfl, hl, hlen, hf⟩ := DataW.trod_struct Tryz.underlying75 h
  rw [cells_node] at hl
  match xs, hlen, cs, hl with
  | [y0, y1, y2, y3, y4], _, [v0, v1, v2, v3, v4, v5, v6, v7], _ =>
   have g0 := hf 0 _ rfl
   have g1 := hf 1 _ rfl
   have g2 := hf 2 _ rfl
   have g3 := hf 3 _ rfl
   have g4 := hf 4 _ rfl
   have g0 : DataW.trod enc Tryz.prog W 0 (fun _ => true) true m 3 [v0] = some y0 := g0
   have g1 : DataW.trod enc Tryz.prog W 0 (fun _ => true) true m 3 [v1] = some y1 := g1
   have g2 : DataW.trod enc Tryz.prog W 0 (fun _ => true) true m 9 [v2] = some y2 := g2
   have g3 : DataW.trod enc Tryz.prog W 0 (fun _ => true) true m 44 [v3, v4, v5, v6] = some y3 := g3
   have g4 : DataW.trod enc Tryz.prog W 0 (fun _ => true) true m 22 [v7] = some y4 := g4
   obtain ⟨k, e0, rfl, w0⟩ := DataW.trod_int Tryz.underlying3 g0
   obtain ⟨n, e1, rfl, w1⟩ := DataW.trod_int Tryz.underlying3 g1
   obtain ⟨s, e2, rfl, -⟩ := DataW.trod_string Tryz.underlying9 g2
   obtain ⟨xv, u, e3, hv, hs, hw⟩ := open_value W m _ _ g3
   obtain ⟨l, vl, e4, hnl, hsl, hwl⟩ := open_nodes (fun j hj => ih j (by omega)) g4
   obtain rfl : v0 = Value.int .i64 k := (List.cons.inj (show [v0] = [Value.int .i64 k] from e0)).1
   obtain rfl : v1 = Value.int .i64 n := (List.cons.inj (show [v1] = [Value.int .i64 n] from e1)).1
   obtain rfl : v2 = Value.string s := (List.cons.inj (show [v2] = [Value.string s] from e2)).1
   obtain rfl : v7 = vl := (List.cons.inj (show [v7] = [vl] from e4)).1
   obtain ⟨vv, rfl, hvl⟩ := hv.open
   simp at e3
   obtain ⟨rfl, rfl, rfl, rfl⟩ := e3
   refine ⟨.mk k n s xv l, _, rfl, hnl.close k n s xv hvl, ?_, i64_wf w0, i64_wf w1, hw, hwl⟩
   simp only [List.map_cons, List.map_nil, Rows.uptoBulk, Rows.uptoBulkAll, Nd.sz]
   have : s.data.toList.length = s.size := by rw [Array.length_toList]; rfl
   omega
end
end
section
theorem in64_inI {n : Int} (h : in64 n) : inI n := ⟨h.1, by have := h.2; omega⟩
theorem v_rng (v : V) (h : v.wf) : inI v.n := by
 cases v with
 | mk k n s l => rw [V.wf] at h; exact in64_inI h.2.1
mutual
theorem rng_nd : ∀ x : Nd, x.wf → ∀ y ∈ x.walk, inI y.ln ∧ inI y.v.n
 | .mk op ln s v l, h, y, hy => by
  rw [Nd.wf] at h
  rw [Nd.walk] at hy
  rcases List.mem_cons.1 hy with e | hy
  ·rw [e]; exact ⟨in64_inI h.2.1, v_rng v h.2.2.1⟩
  ·exact rng_ndl l h.2.2.2 y hy
theorem rng_ndl : ∀ l : List Nd, nwfL l → ∀ y ∈ walkL l, inI y.ln ∧ inI y.v.n
 | [], _, y, hy => by simp [walkL] at hy
 | x :: r, h, y, hy => by
  rw [nwfL] at h
  rw [walkL] at hy
  rcases List.mem_append.1 hy with hy | hy
  ·exact rng_nd x h.1 y hy
  ·exact rng_ndl r h.2 y hy
end
theorem rngL_of {l : List Nd} (h : nwfL l) : RngL l := rng_ndl l h
end
end Go.Proofs.YtbegahbagnflnaaGreatDoor
