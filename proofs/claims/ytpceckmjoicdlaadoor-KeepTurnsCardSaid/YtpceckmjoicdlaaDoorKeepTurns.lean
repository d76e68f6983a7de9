/- The statement KeepTurns. -/
import Derived.Test.YtpceckmjoicdlaaDoorKTurnP
namespace Go.Proofs.YtpceckmjoicdlaaDoor
open Go.RowKit
variable {w0 w w' : World} {pa : Nat → Addr} {nm : ByteArray} {X : Nat}

theorem ob_one {base : Nat} {v : Value} {x : UInt8} {k : Nat} (hx : x.toNat = k) (h : OB base w v [x]) : ∃ g c, v = .slice (some ⟨g, 0, none⟩) 1 c ∧ w.cell? ⟨g, 0, none⟩ = some (.int .u8 (k : Int)) := by
  rcases own_heap h with ⟨e, h0, -⟩ | ⟨g, cap, e, -, -, hc⟩
  · simp at h0
  · refine ⟨g, cap, e, ?_⟩
    rw [hc 0 (by simp)]
    simp [bV, hx]
set_option maxRecDepth 100000 in
set_option maxHeartbeats 12800000 in
theorem keepTurns_any (pa : Nat → Addr) (n at_ : Int) (hn1 : -9223372036854775808 ≤ n) (hn2 : n ≤ 9223372036854775807) (ha1 : -9223372036854775808 ≤ at_) (ha2 : at_ ≤ 9223372036854775807) (W : World) (hE : Sent17 W pa) :
    Calls Tryd.prog 5 #[.int .i64 n, .int .i64 at_] W fun e w' => e = .returned (.bool true) ∧ Fr (fun _ => False) W w' := by
  have HFI := hid (kfirst_any hE)
  have HE := hid hE
  obtain ⟨m, hm⟩ : ∃ m : Nat, n % 10 + 2 = (m : Int) := ⟨(n % 10 + 2).toNat, by omega⟩
  have hmb : 2 ≤ m ∧ m ≤ 11 := by omega
  have HMB := hid hmb
  have HNU := hid (fun w : World => number_any n 10 w (by decide) (by decide) hn1 hn2)
  have HNA := hid (fun w : World => number_any at_ 25 w (by decide) (by decide) ha1 ha2)
  obtain ⟨r, hr⟩ : ∃ r, n % 10 = r := ⟨_, rfl⟩
  rw [hr] at HNU hm
  have hrb : 0 ≤ r ∧ r ≤ 9 := by omega
  clear hE hn1 hn2 hr
  go_enter Tryd.func5, Tryd.ntmps5
  go_wp2_with fail
  refine HFI.out.mono ?_
  rintro e w1 ⟨rfl, hf1⟩
  have HF1 := hid hf1
  clear hf1
  go_wp2_with fail
  refine (HNU.out w1).mono ?_
  rintro e w1' ⟨rfl, rfl⟩
  have HN := hid (new_p (HE.out.s6) HF1.out 16384)
  go_wp2_with fail
  refine HN.out.mono ?_
  rintro e w2 ⟨-, h2⟩
  obtain ⟨X, rfl, h2, -⟩ := h2 (by decide +kernel)
  have H2 := hid h2
  clear h2
  go_wp2_with fail
  go_loopw [8, 9, 10, 11] (fun iv _ _ _ wr => ∃ i : Nat, i ≤ m ∧ iv = .int .i64 i ∧ ∃ p, Hid (PW W wr X p) ∧ Hid (TI i p)) (fun iv _ _ _ _ => m - (intOf iv).toNat)
  case atStart => exact ⟨0, Nat.zero_le _, rfl, _, hid H2.out, hid TI.zero⟩
  case round =>
    obtain ⟨i, hi, rfl, p, HP, HT⟩ := hrel
    have HI := hid hi
    by_cases hlt : i < m
    · have hltI : (i : Int) < (m : Int) := by omega
      have hu8 : (UInt8.ofNat i).toNat = i := by rw [UInt8.toNat_ofNat']; omega
      have hnp := newP_turn i (by omega)
      rw [← HT.out.g0, ← HT.out.g1] at hnp
      have hsvn : (newP (gst p kW0) (gst p kW1)).2.2.1 = (i : Int) := by rw [hnp]
      have hsvt : (newP (gst p kW0) (gst p kW1)).1 = turnN i := by rw [hnp]
      have hfa := (Fr.refl (fun _ => False) wr).alloc (.cells #[.int .u8 (i : Int)] 5)
      have hrow := heap_alloc_new wr (.cells #[.int .u8 (i : Int)] 5)
      have hbs : Bs (BB (wr.alloc (.cells #[.int .u8 (i : Int)] 5))) (wr.alloc (.cells #[.int .u8 (i : Int)] 5)) (.slice (some ⟨wr.heap.size, 0, none⟩) 1 1) [UInt8.ofNat i] := by
        have e : (bV [UInt8.ofNat i]).toArray = #[.int .u8 (i : Int)] := by simp [bV, hu8]
        refine (Bs.row (l := [UInt8.ofNat i]) (by rw [e]; exact hrow) (by simp [maxLen])).mono fun k _ hk => ?_
        rw [hk]
        exact ⟨_, _, hrow⟩
      have hsv := save_any (HP.out.fr hfa) HE.out HT.out.k3.calm ⟨by have := HT.out.cl; omega, by have := HT.out.cl; omega⟩ _ [UInt8.ofNat i] (KB.own hbs) (by simp) (i + 1) (by rw [hsvn]; simp only [IntKind.wrap, IntKind.signed, IntKind.bits]; simp; omega) (by omega) (by
        have h1 := HT.out.k3.used HP.out.ok.kn
        have h2 := HT.out.room
        simp
        omega)
      rw [hsvt] at hsv
      have HSV := hid hsv
      clear hsv hbs hrow hfa hnp hsvn hsvt
      go_wp2_with fail
      refine HSV.out.mono ?_
      rintro e wa ⟨rfl, -, F, p5, h5, hs5⟩
      have ht5 := HT.out.next (by omega) hs5
      have hl5 := load_any h5 HE.out ht5.k3.calm.1
      have hn5 := newP_turn (i + 1) (by omega)
      rw [if_neg (by omega), if_neg (by omega), show i + 1 - 1 = i by omega, ← ht5.g0, ← ht5.g1] at hn5
      rw [hn5] at hl5
      dsimp only at hl5
      have z0 : errV pa 0 = .nilIface := rfl
      rw [z0] at hl5
      have HL5 := hid hl5; have H5 := hid h5; have HT5 := hid ht5; have HU8 := hid hu8
      clear hl5 h5 ht5 hn5 hs5 z0 hu8 HSV
      go_wp2_with fail
      refine HL5.out.mono ?_
      rintro e wb ⟨hfb, vy, rfl, hob⟩
      obtain ⟨gy, cy, rfl, hcy⟩ := ob_one HU8.out hob
      have HBF := hid (H5.out.fr hfb)
      clear hfb hob
      go_wp2_with fail
      exact ⟨⟨i + 1, by have := HI.out; omega, by rw [show ((i + 1 : Nat) : Int) = (i : Int) + 1 by omega], _, hid HBF.out, hid HT5.out⟩, by simp [intOf]; omega⟩
    · obtain rfl : i = m := by omega
      have hltI : ¬ (i : Int) < (i : Int) := by omega
      have hli := list_p HP.out (by have := HT.out.cl; omega)
      rw [HT.out.list hmb.1 HP.out.ok.kn] at hli
      have HLI := hid hli
      clear hli
      go_wp2_with fail
      refine HLI.out.mono ?_
      rintro e wa ⟨hfa, a1, c1, rfl, hss⟩
      have HPA := hid (HP.out.fr hfa); have HSS := hid hss
      clear hfa hss
      go_wp2_with fail
      have hra := (Fr.refl (fun _ => False) wa).alloc (.cells #[.string kW0, .string kW1] 9)
      have hrb : Ss (TB (wa.alloc (.cells #[.string kW0, .string kW1] 9))) (wa.alloc (.cells #[.string kW0, .string kW1] 9)) (.slice (some ⟨wa.heap.size, 0, none⟩) 2 2) [kW0, kW1] := Ss.row (l := [kW0, kW1]) (heap_alloc_new wa (.cells #[.string kW0, .string kW1] 9)) (by simp [maxLen])
      have hst := sameTexts_any _ _ _ _ _ _ _ (HSS.out.keep0 hra) hrb
      rw [decide_eq_true (rfl : [kW0, kW1] = [kW0, kW1])] at hst
      have HST := hid hst; have HPR := hid (HPA.out.fr hra)
      clear hst hra hrb
      refine HST.out.mono ?_
      rintro e wb ⟨rfl, hdr⟩
      have HPB := hid (HPR.out.fr (fr_drewN2 hdr))
      clear hdr HST HSS
      -- two ways
      by_cases hp : i % 2 = 0
      · have hpI : ((i : Int) % 2 == 0) = true := by rw [beq_iff_eq]; omega
        go_wp2_with fail
        have hN1 : turnN i = kW1 := by unfold turnN; rw [if_neg (by omega), if_neg (by omega)]
        have hla := HT.out.last hmb.1
        rw [hN1] at hla
        obtain ⟨k, hk, hkl, hcut⟩ := hla
        have hlen := len_p HPB.out HE.out.s6 HT.out.k3.calm hk
        rw [hkl] at hlen
        have HLEN := hid hlen
        clear hlen hN1
        go_wp2_with fail
        refine HLEN.out.mono ?_
        rintro e wc ⟨rfl, hfc⟩
        have HPC := hid (HPB.out.fr hfc)
        clear hfc HLEN
        go_wp2_with fail
        refine (HNA.out wc).mono ?_
        rintro e wc' ⟨rfl, rfl⟩
        obtain ⟨j, hj⟩ : ∃ j : Nat, at_ % 25 = (j : Int) := ⟨(at_ % 25).toNat, by omega⟩
        have hjb : j < 25 := by omega
        rw [hj]
        have hct := cut_p HPC.out HE.out.s6 (nm := kW1) HT.out.k3.calm hk j (by omega) (by have := HT.out.cl; omega)
        obtain ⟨hnp, hk3⟩ := hcut j hjb (p.fs k).id
        have HCT := hid hct; have HNP := hid hnp; have HK3 := hid hk3
        clear hct hnp hk3 hcut hj hjb
        go_wp2_with fail
        refine HCT.out.mono ?_
        rintro e wd ⟨rfl, hd, -⟩
        have hpc : (p.put k ⟨(p.fs k).id, (p.fs k).by_.take j, j⟩).calls ≤ 100000 ∧ (p.put k ⟨(p.fs k).id, (p.fs k).by_.take j, j⟩).files ≤ 100000 ∧ (p.put k ⟨(p.fs k).id, (p.fs k).by_.take j, j⟩).room = 16384 := by
          show p.calls + 1 ≤ _ ∧ p.files ≤ _ ∧ p.room = _
          have h1 := HT.out.cl
          exact ⟨by omega, by omega, HT.out.room⟩
        generalize p.put k ⟨(p.fs k).id, (p.fs k).by_.take j, j⟩ = p6 at *
        have hu8 : (UInt8.ofNat (i - 2)).toNat = i - 2 := by rw [UInt8.toNat_ofNat']; omega
        have hld := load_any hd HE.out HK3.out.calm.1
        rw [HNP.out] at hld
        dsimp only at hld
        have z0 : errV pa 0 = .nilIface := rfl
        rw [z0] at hld
        obtain ⟨q, hq⟩ : ∃ q : Nat, i = q + 2 := ⟨i - 2, by omega⟩
        have hq1 : ((i - 2 : Nat) : Int) = (i : Int) - 2 := by omega
        have HLD := hid hld; have HD := hid hd; have HPC6 := hid hpc; have HU8 := hid hu8
        clear hld hd hpc hu8 z0 hq HCT
        go_wp2_with fail
        refine HLD.out.mono ?_
        rintro e we ⟨hfe, vy, rfl, hob⟩
        obtain ⟨gy, cy, rfl, hcy⟩ := ob_one HU8.out hob
        rw [hq1] at hcy
        have HE5 := hid (HD.out.fr hfe)
        clear hfe hob
        go_wp2_with fail
        have hfa := (Fr.refl (fun _ => False) we).alloc (.cells #[.int .u8 99] 5)
        have hrow := heap_alloc_new we (.cells #[.int .u8 99] 5)
        have hbs : Bs (BB (we.alloc (.cells #[.int .u8 99] 5))) (we.alloc (.cells #[.int .u8 99] 5)) (.slice (some ⟨we.heap.size, 0, none⟩) 1 1) [99] := by
          refine (Bs.row (l := [99]) hrow (by simp [maxLen])).mono fun k _ hk => ?_
          rw [hk]
          exact ⟨_, _, hrow⟩
        have en : (newP (gst p6 kW0) (gst p6 kW1)).2.2.1 = (i : Int) - 1 := by rw [HNP.out]
        have hu : IntKind.u64.wrap (IntKind.i64.wrap ((newP (gst p6 kW0) (gst p6 kW1)).2.2.1 + 1)) = (i : Int) := by
          rw [en]
          simp only [IntKind.wrap, IntKind.signed, IntKind.bits]
          simp
          omega
        have hsv := save_any (HE5.out.fr hfa) HE.out HK3.out.calm ⟨HPC6.out.1, HPC6.out.2.1⟩ _ [99] (KB.own hbs) (by simp) i hu (by omega) (by
          have h1 := HK3.out.used HE5.out.ok.kn
          have h2 := HPC6.out.2.2
          simp
          omega)
        have HSV := hid hsv; have HU := hid hu; have EN := hid en
        clear hsv hbs hrow hfa hu en
        refine HSV.out.mono ?_
        rintro e wf ⟨rfl, -, F5, p7, h7, hs7⟩
        have hn7 := newP_saved hs7 (by simp) HU.out (by rw [EN.out]; omega)
        rw [EN.out, show (i : Int) - 1 + 1 = (i : Int) by omega] at hn7
        have hl7 := load_any h7 HE.out hs7.calm.1
        rw [hn7] at hl7
        dsimp only at hl7
        have z0 : errV pa 0 = .nilIface := rfl
        rw [z0] at hl7
        have HL7 := hid hl7; have H7 := hid h7
        clear hl7 hn7 hs7 h7 z0
        go_wp2_with fail
        refine HL7.out.mono ?_
        rintro e wg ⟨hfg, vz, rfl, hoz⟩
        obtain ⟨gz, cz, rfl, hcz⟩ := ob_one (k := 99) rfl hoz
        have HG7 := hid (H7.out.fr hfg)
        clear hfg hoz
        have HIS := hid (show Calls Tryd.prog 12 #[.nilIface, .int .i64 102] wg _ from is_num wg pa (HE.out.frame HG7.out.f) 0 (by unfold ErrNo; omega) 102)
        go_wp2_with fail
        refine HIS.out.mono ?_
        rintro e wh ⟨rfl, hfh⟩
        have HFH := hid (HG7.out.f.trans' hfh)
        clear hfh
        go_wp2_with fail
        go_ret
        exact ⟨rfl, HFH.out⟩
      · have hpI : ((i : Int) % 2 == 0) = false := by rw [beq_eq_false_iff_ne]; omega
        go_wp2_with fail
        have hN1 : turnN i = kW0 := by unfold turnN; rw [if_neg (by omega), if_pos (by omega)]
        have hla := HT.out.last hmb.1
        rw [hN1] at hla
        obtain ⟨k, hk, hkl, hcut⟩ := hla
        have hlen := len_p HPB.out HE.out.s6 HT.out.k3.calm hk
        rw [hkl] at hlen
        have HLEN := hid hlen
        clear hlen hN1
        go_wp2_with fail
        refine HLEN.out.mono ?_
        rintro e wc ⟨rfl, hfc⟩
        have HPC := hid (HPB.out.fr hfc)
        clear hfc HLEN
        go_wp2_with fail
        refine (HNA.out wc).mono ?_
        rintro e wc' ⟨rfl, rfl⟩
        obtain ⟨j, hj⟩ : ∃ j : Nat, at_ % 25 = (j : Int) := ⟨(at_ % 25).toNat, by omega⟩
        have hjb : j < 25 := by omega
        rw [hj]
        have hct := cut_p HPC.out HE.out.s6 (nm := kW0) HT.out.k3.calm hk j (by omega) (by have := HT.out.cl; omega)
        obtain ⟨hnp, hk3⟩ := hcut j hjb (p.fs k).id
        have HCT := hid hct; have HNP := hid hnp; have HK3 := hid hk3
        clear hct hnp hk3 hcut hj hjb
        go_wp2_with fail
        refine HCT.out.mono ?_
        rintro e wd ⟨rfl, hd, -⟩
        have hpc : (p.put k ⟨(p.fs k).id, (p.fs k).by_.take j, j⟩).calls ≤ 100000 ∧ (p.put k ⟨(p.fs k).id, (p.fs k).by_.take j, j⟩).files ≤ 100000 ∧ (p.put k ⟨(p.fs k).id, (p.fs k).by_.take j, j⟩).room = 16384 := by
          show p.calls + 1 ≤ _ ∧ p.files ≤ _ ∧ p.room = _
          have h1 := HT.out.cl
          exact ⟨by omega, by omega, HT.out.room⟩
        generalize p.put k ⟨(p.fs k).id, (p.fs k).by_.take j, j⟩ = p6 at *
        have hu8 : (UInt8.ofNat (i - 2)).toNat = i - 2 := by rw [UInt8.toNat_ofNat']; omega
        have hld := load_any hd HE.out HK3.out.calm.1
        rw [HNP.out] at hld
        dsimp only at hld
        have z0 : errV pa 0 = .nilIface := rfl
        rw [z0] at hld
        obtain ⟨q, hq⟩ : ∃ q : Nat, i = q + 2 := ⟨i - 2, by omega⟩
        have hq1 : ((i - 2 : Nat) : Int) = (i : Int) - 2 := by omega
        have HLD := hid hld; have HD := hid hd; have HPC6 := hid hpc; have HU8 := hid hu8
        clear hld hd hpc hu8 z0 hq HCT
        go_wp2_with fail
        refine HLD.out.mono ?_
        rintro e we ⟨hfe, vy, rfl, hob⟩
        obtain ⟨gy, cy, rfl, hcy⟩ := ob_one HU8.out hob
        rw [hq1] at hcy
        have HE5 := hid (HD.out.fr hfe)
        clear hfe hob
        go_wp2_with fail
        have hfa := (Fr.refl (fun _ => False) we).alloc (.cells #[.int .u8 99] 5)
        have hrow := heap_alloc_new we (.cells #[.int .u8 99] 5)
        have hbs : Bs (BB (we.alloc (.cells #[.int .u8 99] 5))) (we.alloc (.cells #[.int .u8 99] 5)) (.slice (some ⟨we.heap.size, 0, none⟩) 1 1) [99] := by
          refine (Bs.row (l := [99]) hrow (by simp [maxLen])).mono fun k _ hk => ?_
          rw [hk]
          exact ⟨_, _, hrow⟩
        have en : (newP (gst p6 kW0) (gst p6 kW1)).2.2.1 = (i : Int) - 1 := by rw [HNP.out]
        have hu : IntKind.u64.wrap (IntKind.i64.wrap ((newP (gst p6 kW0) (gst p6 kW1)).2.2.1 + 1)) = (i : Int) := by
          rw [en]
          simp only [IntKind.wrap, IntKind.signed, IntKind.bits]
          simp
          omega
        have hsv := save_any (HE5.out.fr hfa) HE.out HK3.out.calm ⟨HPC6.out.1, HPC6.out.2.1⟩ _ [99] (KB.own hbs) (by simp) i hu (by omega) (by
          have h1 := HK3.out.used HE5.out.ok.kn
          have h2 := HPC6.out.2.2
          simp
          omega)
        have HSV := hid hsv; have HU := hid hu; have EN := hid en
        clear hsv hbs hrow hfa hu en
        refine HSV.out.mono ?_
        rintro e wf ⟨rfl, -, F5, p7, h7, hs7⟩
        have hn7 := newP_saved hs7 (by simp) HU.out (by rw [EN.out]; omega)
        rw [EN.out, show (i : Int) - 1 + 1 = (i : Int) by omega] at hn7
        have hl7 := load_any h7 HE.out hs7.calm.1
        rw [hn7] at hl7
        dsimp only at hl7
        have z0 : errV pa 0 = .nilIface := rfl
        rw [z0] at hl7
        have HL7 := hid hl7; have H7 := hid h7
        clear hl7 hn7 hs7 h7 z0
        go_wp2_with fail
        refine HL7.out.mono ?_
        rintro e wg ⟨hfg, vz, rfl, hoz⟩
        obtain ⟨gz, cz, rfl, hcz⟩ := ob_one (k := 99) rfl hoz
        have HG7 := hid (H7.out.fr hfg)
        clear hfg hoz
        have HIS := hid (show Calls Tryd.prog 12 #[.nilIface, .int .i64 102] wg _ from is_num wg pa (HE.out.frame HG7.out.f) 0 (by unfold ErrNo; omega) 102)
        go_wp2_with fail
        refine HIS.out.mono ?_
        rintro e wh ⟨rfl, hfh⟩
        have HFH := hid (HG7.out.f.trans' hfh)
        clear hfh
        go_wp2_with fail
        go_ret
        exact ⟨rfl, HFH.out⟩
end Go.Proofs.YtpceckmjoicdlaaDoor
