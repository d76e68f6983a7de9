/- The statement KeepHolds. -/
import Derived.Test.YtpceckmjoicdlaaDoorKeepH
import Derived.Test.YtpceckmjoicdlaaDoorKTurnP
namespace Go.Proofs.YtpceckmjoicdlaaDoor
open Go.RowKit
variable {w0 w w' : World} {pa : Nat → Addr} {nm : ByteArray} {X : Nat}

theorem calm_arm {r : PS} (h : r.calm) : r.arm 0 = r := by
  obtain ⟨a, b, c, d, e, f, g, i, j⟩ := r
  have h2 : f = 0 := h.2
  subst h2
  rfl
theorem saveTo_two (n : ByteArray) : saveTo n = kW0 ∨ saveTo n = kW1 := by
  unfold saveTo
  split
  · exact .inr rfl
  · exact .inl rfl
theorem Bs.below {v : Value} {l : List UInt8} (h : Bs (fun _ => True) w v l) : Bs (fun k => k < w.heap.size) w v l := h.mono fun _ h _ => h
theorem Is.below {v : Value} {l : List Int} (h : Is (fun _ => True) w v l) : Is (fun k => k < w.heap.size) w v l := by
  obtain ⟨x, y, e, h1, h2, h3⟩ := h
  refine ⟨x, y, e, h1, h2, fun k hk => ?_⟩
  obtain ⟨b, o, u, e, -, hc, hu⟩ := h3 k hk
  exact ⟨b, o, u, e, World.block_lt_of_cell? w _ hc, hc, hu⟩
set_option maxRecDepth 100000 in
set_option maxHeartbeats 25600000 in
theorem keepHolds_any (pa : Nat → Addr) (va vb vp : Value) (l : List (List UInt8)) (arms picks : List Int) (W : World) (hl : Bss (fun _ => True) W va l) (hb : Is (fun _ => True) W vb arms) (hrb : ∀ k, -9223372036854775808 ≤ arms.getD k 0 ∧ arms.getD k 0 ≤ 9223372036854775807) (hp : Is (fun _ => True) W vp picks) (hrp : ∀ k, -9223372036854775808 ≤ picks.getD k 0 ∧ picks.getD k 0 ≤ 9223372036854775807) (hE : Sent17 W pa) :
    Calls Tryd.prog 4 #[va, vb, vp] W fun e w' => e = .returned (.bool true) ∧ Fr (fun _ => False) W w' := by
  have HFI := hid (kfirst_any hE)
  have HP := hid hp.below
  obtain ⟨al, cl, rfl, hl1, hl2, hlk⟩ := hl
  obtain ⟨ab, cb, rfl, hb1, hb2, hbk⟩ := hb
  obtain ⟨ap, cp, rfl, hp1, hp2, -⟩ := hp
  have HLK := hid hlk; have HBK := hid hbk; have HRB := hid hrb; have HRP := hid hrp; have HE := hid hE
  have hm1 : l.length ≤ 9223372036854775807 := Nat.le_trans hl1 hl2
  have hm2 : arms.length ≤ 9223372036854775807 := Nat.le_trans hb1 hb2
  have hm3 : picks.length ≤ 9223372036854775807 := Nat.le_trans hp1 hp2
  clear hl1 hl2 hlk hb1 hb2 hbk hp1 hp2 hrb hrp hE
  have HNU := hid (fun (i : Nat) (w : World) => number_any (arms.getD i 0) 14 w (by decide) (by decide) (HRB.out i).1 (HRB.out i).2)
  go_enter Tryd.func4, Tryd.ntmps4
  go_wp2_with fail
  refine HFI.out.mono ?_
  rintro e w1 ⟨rfl, hf1⟩
  have HF1 := hid hf1
  clear hf1
  by_cases l1 : 12 < l.length
  · have l1I : (12 : Int) < l.length := by omega
    go_wp2_with fail
    go_ret
    exact ⟨rfl, HF1.out⟩
  have l1I : ¬ (12 : Int) < l.length := by omega
  by_cases l2 : 12 < arms.length
  · have l2I : (12 : Int) < arms.length := by omega
    go_wp2_with fail
    go_ret
    exact ⟨rfl, HF1.out⟩
  have l2I : ¬ (12 : Int) < arms.length := by omega
  by_cases l3 : 10 < picks.length
  · have l3I : (10 : Int) < picks.length := by omega
    go_wp2_with fail
    go_ret
    exact ⟨rfl, HF1.out⟩
  have l3I : ¬ (10 : Int) < picks.length := by omega
  have HN := hid (new_p (HE.out.s6) HF1.out 65536)
  have HL3 := hid (show l.length ≤ 12 ∧ arms.length ≤ 12 ∧ picks.length ≤ 10 by omega)
  go_wp2_with fail
  refine HN.out.mono ?_
  rintro e w2 ⟨-, h2⟩
  obtain ⟨X, rfl, h2, -⟩ := h2 (by decide +kernel)
  have H2 := hid h2
  clear h2 l1 l2 l3 l1I l2I l3I
  go_wp2_with fail
  go_loopw [10, 11, 12, 13, 14, 15, 16, 17] (fun lv sv nv iv _ _ _ _ wr => ∃ (i n : Nat) (s : Bool) (last : List UInt8), i ≤ l.length ∧ n ≤ i ∧ iv = .int .i64 i ∧ nv = .int .i64 n ∧ sv = .bool s ∧ Hid (Bs (fun k => k < W.heap.size) W lv last) ∧ ∃ p, Hid (PW W wr X p) ∧ Hid (LI s last n p) ∧ Hid (p.calls ≤ 7 * i ∧ p.files ≤ 7 * i)) (fun _ _ _ iv _ _ _ _ _ => l.length - (intOf iv).toNat)
  case atStart => exact ⟨0, 0, false, [], Nat.zero_le _, Nat.le_refl _, rfl, rfl, rfl, hid ⟨none, 0, rfl, Nat.le_refl _, Nat.zero_le _, fun k hk => by simp at hk⟩, _, hid H2.out, hid (LI.zero _), hid ⟨Nat.zero_le _, Nat.zero_le _⟩⟩
  case round =>
    obtain ⟨i, n, s, last, hi, hn, rfl, rfl, rfl, HLA, p, HP0, HL, HCL⟩ := hrel
    have HIN := hid (show i ≤ l.length ∧ n ≤ i from ⟨hi, hn⟩)
    by_cases hlt : i < l.length
    · have hltI : (i : Int) < (l.length : Int) := by omega
      have HLT := hid hlt
      obtain ⟨b, o, u, rfl, -, hcw, hu⟩ := HLK.out i hlt
      have HB := hid hu.below
      obtain ⟨ua, uc, rfl, huc, hum, -⟩ := hu
      have hmu : (l.getD i []).length ≤ 9223372036854775807 := Nat.le_trans huc hum
      have hcr := HP0.out.f.cell hcw not_false
      have HCW := hid hcw
      clear huc hum hcw hi hn hlt
      generalize l.getD i [] = r at *
      by_cases hr : 200 < r.length
      · have hrI : (200 : Int) < r.length := by omega
        go_wp2_with fail
        go_ret
        exact ⟨rfl, HP0.out.f⟩
      have hrI : ¬ (200 : Int) < r.length := by omega
      have HRL := hid (show r.length ≤ 200 by omega)
      obtain ⟨last_a, last_c, hlv, -⟩ := id HLA.out
      subst hlv
      by_cases ha : i < arms.length
      · have haI : (i : Int) < (arms.length : Int) := by omega
        obtain ⟨b2, o2, u2, rfl, -, hcb, hu2⟩ := HBK.out i ha
        subst hu2
        have hcb2 := HP0.out.f.cell hcb not_false
        clear hcb ha
        have hnu := HNU.out i
        generalize arms.getD i 0 = ai at *
        have HN14 := hid hnu
        clear hnu hr
        go_wp2_with fail
        refine (HN14.out wr).mono ?_
        rintro e wr' ⟨rfl, rfl⟩
        obtain ⟨ar, har⟩ : ∃ ar, ai % 14 = ar := ⟨_, rfl⟩
        have harb : ar ≤ 13 := by omega
        rw [har]
        have HAR := hid (arm_p HP0.out ar (by omega))
        clear har harb HN14 hcb2
        go_wp2_with fail
        refine HAR.out.mono ?_
        rintro e wa ⟨rfl, ha, hfa⟩
        have HA := hid ha; have HFA := hid (FT.of hfa HP0.out.f ha.f)
        have hcr := HA.out.f.cell HCW.out not_false
        clear ha hfa HAR
        have hsv := save_g (ar := ar) HA.out HE.out HL.out.ri (by have := HCL.out; have := HIN.out; have := HL3.out; omega) _ r (KB.arg HB.out HA.out.f) HRL.out (n + 1) (by rw [HL.out.num]; exact wrap_u n (by have := HIN.out; have := HL3.out; omega)) (by have := HIN.out; have := HL3.out; omega)
        have HSV := hid hsv
        clear hsv
        go_wp2_with fail
        refine HSV.out.mono ?_
        rintro e wb ⟨hfb, q, hq, hqc, hcase⟩
        clear HSV
        rcases hcase with ⟨rfl, hqd, hri, htu⟩ | ⟨rfl, hqd, hms⟩
        · have HQ := hid hq; have HQC := hid hqc
          have hli := HL.out.put (by have := HIN.out; have := HL3.out; omega) (by have := HRL.out; omega) hri htu
          have HLI := hid hli
          have HAR2 := hid (arm_p HQ.out 0 (by decide))
          clear hq hqc hqd hri htu hli hfb
          go_wp2_with fail
          refine HAR2.out.mono ?_
          rintro e wc ⟨rfl, hc, -⟩
          have hqa : (q.arm 0).calls ≤ p.calls + 6 ∧ (q.arm 0).files ≤ p.files + 6 := HQC.out
          generalize q.arm 0 = q1 at *
          have HC := hid hc; have HQC1 := hid hqa
          clear hc hqa HAR2
          have hld := load_any HC.out HE.out HLI.out.ri.calm.1
          obtain ⟨nmx, hnp⟩ : ∃ nm, newP (gst q1 kW0) (gst q1 kW1) = (nm, r, ((n + 1 : Nat) : Int), 0) := by
            rcases HLI.out.np with ⟨h, -⟩ | ⟨-, h⟩
            · cases h
            · exact h
          rw [hnp] at hld
          dsimp only at hld
          have z0 : errV pa 0 = .nilIface := rfl
          rw [z0] at hld
          have HLD := hid hld
          clear hld hnp z0
          go_wp2_with fail
          refine HLD.out.mono ?_
          rintro e wg ⟨hfg, vg, rfl, hog⟩
          have HCG := hid (HC.out.fr hfg)
          obtain ⟨ag, cg, hvg, -⟩ := own_len hog
          subst hvg
          have hsb := sameBytes_any _ _ _ _ _ _ wg hog.bs2 (HB.out.frame HCG.out.f fun _ _ => id)
          rw [decide_eq_true rfl] at hsb
          have HSB := hid hsb
          have hcg := HCG.out.f.cell HCW.out not_false
          have wn : IntKind.i64.wrap ((n : Int) + 1) = ((n + 1 : Nat) : Int) := by rw [IntWalk.i64_in _ (by have := HIN.out; have := HL3.out; omega)]; omega
          have HOG := hid hog.bs2
          clear hfg hog hsb HLD
          go_wp2_with fail
          refine HSB.out.mono ?_
          rintro e wh ⟨rfl, hdr⟩
          have HCH := hid (HCG.out.fr (fr_drewN2 hdr))
          have hch := HCH.out.f.cell HCW.out not_false
          clear hdr HSB hcg
          go_wp2_with fail
          exact ⟨⟨i + 1, n + 1, true, r, by have := HLT.out; omega, by have := HIN.out; omega, by rw [show ((i + 1 : Nat) : Int) = (i : Int) + 1 by omega], rfl, rfl, hid HB.out, _, hid HCH.out, hid HLI.out, hid (by have := HQC1.out; have := HCL.out; omega)⟩, by simp [intOf]; have := HLT.out; omega⟩
        · have HQ := hid hq; have HQC := hid hqc; have HMS := hid hms
          have HIS := hid (show Calls Tryd.prog 12 #[errV pa 110, .int .i64 110] wb _ from is_num wb pa (HE.out.frame HQ.out.f) 110 (by unfold ErrNo; omega) 110)
          have HQD := hid hqd
          have z9 : errV pa 110 = .iface 168 (.pointer (some (pa 9))) := rfl
          rw [z9] at HIS ⊢
          clear hq hqc hms hqd hfb z9
          go_wp2_with fail
          refine HIS.out.mono ?_
          rintro e wc ⟨rfl, hfc⟩
          have HQ2 := hid (HQ.out.fr hfc)
          have hdn := down_p HQ2.out
          rw [HQD.out] at hdn
          have HDN := hid hdn
          clear hfc HIS hdn
          go_wp2_with fail
          refine HDN.out.mono ?_
          rintro e wd ⟨rfl, rfl⟩
          clear HDN
          have HCRS := hid (crash_q HQ2.out (by have := HQC.out; have := HCL.out; have := HIN.out; have := HL3.out; omega) _ _ picks (HP.out.frame HQ2.out.f fun _ _ => id) (fun k hk => .inr hk) HRP.out (by have := HL3.out; omega))
          go_wp2_with fail
          refine HCRS.out.mono ?_
          rintro e we ⟨rfl, G, hG, hr, -⟩
          obtain ⟨hri, hgs⟩ := HMS.out.crash HL.out.ri (saveTo_two _) hG hr.ok.kn
          have hqa : (q.crash picks G).calls ≤ p.calls + 6 ∧ (q.crash picks G).files ≤ p.files + 6 := HQC.out
          generalize q.crash picks G = q1 at *
          have har := arm_p hr 0 (by decide)
          rw [calm_arm hri.calm] at har
          have HAR2 := hid har; have HQC1 := hid hqa; have HRI := hid hri
          clear har hqa HCRS hG
          go_wp2_with fail
          refine HAR2.out.mono ?_
          rintro e wf ⟨rfl, hc, -⟩
          clear hr HAR2
          rcases hgs with hgs | htu
          · have HLI := hid (HL.out.keep HRI.out hgs)
            have HC := hid hc
            clear hc hgs hri
            have hld := load_any HC.out HE.out HLI.out.ri.calm.1
            cases s with
            | false =>
              have hnp : ∃ b m, newP (gst q1 kW0) (gst q1 kW1) = (⟨#[]⟩, b, m, 107) := by
                rcases HLI.out.np with ⟨-, -, e0, e1⟩ | ⟨h, -⟩
                · rw [e0, e1]; exact ⟨_, _, rfl⟩
                · cases h
              obtain ⟨bx, mx, hnp⟩ := hnp
              rw [hnp] at hld
              dsimp only at hld
              have HIS2 := hid (fun (W2 : World) (hf : Fr (fun _ => False) W W2) => (show Calls Tryd.prog 12 #[errV pa 107, .int .i64 107] W2 _ from is_num W2 pa (HE.out.frame hf) 107 (by unfold ErrNo; omega) 107))
              have z6 : errV pa 107 = .iface 168 (.pointer (some (pa 6))) := rfl
              rw [z6] at hld HIS2
              have HLD := hid hld
              clear hld hnp z6
              go_wp2_with fail
              refine HLD.out.mono ?_
              rintro e wg ⟨hfg, vg, rfl, hog⟩
              have HCG := hid (HC.out.fr hfg)
              obtain ⟨ag, cg, hvg, -⟩ := own_len hog
              subst hvg
              clear hfg hog HLD
              go_wp2_with fail
              refine (HIS2.out wg HCG.out.f).mono ?_
              rintro e wh ⟨rfl, hfh⟩
              have HCH := hid (HCG.out.fr hfh)
              clear hfh HIS2
              go_wp2_with fail
              exact ⟨⟨i + 1, n, false, last, by have := HLT.out; omega, by have := HIN.out; omega, by rw [show ((i + 1 : Nat) : Int) = (i : Int) + 1 by omega], rfl, rfl, hid HLA.out, _, hid HCH.out, hid HLI.out, hid (by have := HQC1.out; have := HCL.out; omega)⟩, by simp [intOf]; have := HLT.out; omega⟩
            | true =>
              obtain ⟨nmx, hnp⟩ : ∃ nm, newP (gst q1 kW0) (gst q1 kW1) = (nm, last, (n : Int), 0) := by
                rcases HLI.out.np with ⟨h, -⟩ | ⟨-, h⟩
                · cases h
                · exact h
              rw [hnp] at hld
              dsimp only at hld
              have z0 : errV pa 0 = .nilIface := rfl
              rw [z0] at hld
              have HLD := hid hld
              clear hld hnp z0
              go_wp2_with fail
              refine HLD.out.mono ?_
              rintro e wg ⟨hfg, vg, rfl, hog⟩
              have HCG := hid (HC.out.fr hfg)
              obtain ⟨ag, cg, hvg, -⟩ := own_len hog
              subst hvg
              have hsb := sameBytes_any _ _ _ _ _ _ wg hog.bs2 (HLA.out.frame HCG.out.f fun _ _ => id)
              rw [decide_eq_true rfl] at hsb
              have HSB := hid hsb
              have wn : IntKind.i64.wrap ((n : Int) + 1) = ((n + 1 : Nat) : Int) := by rw [IntWalk.i64_in _ (by have := HIN.out; have := HL3.out; omega)]; omega
              have wne : ((n : Int) == ((n + 1 : Nat) : Int)) = false := by rw [beq_eq_false_iff_ne]; omega
              clear hfg hog hsb HLD
              go_wp2_with fail
              refine HSB.out.mono ?_
              rintro e wh ⟨rfl, hdr⟩
              have HCH := hid (HCG.out.fr (fr_drewN2 hdr))
              clear hdr HSB
              go_wp2_with fail
              exact ⟨⟨i + 1, n, true, last, by have := HLT.out; omega, by have := HIN.out; omega, by rw [show ((i + 1 : Nat) : Int) = (i : Int) + 1 by omega], rfl, rfl, hid HLA.out, _, hid HCH.out, hid HLI.out, hid (by have := HQC1.out; have := HCL.out; omega)⟩, by simp [intOf]; have := HLT.out; omega⟩
          · have HLI := hid (HL.out.put (by have := HIN.out; have := HL3.out; omega) (by have := HRL.out; omega) HRI.out htu)
            have HC := hid hc
            clear hc htu hri
            cases s with
            | false =>
              have hld := load_any HC.out HE.out HLI.out.ri.calm.1
              obtain ⟨nmx, hnp⟩ : ∃ nm, newP (gst q1 kW0) (gst q1 kW1) = (nm, r, ((n + 1 : Nat) : Int), 0) := by
                rcases HLI.out.np with ⟨h, -⟩ | ⟨-, h⟩
                · cases h
                · exact h
              rw [hnp] at hld
              dsimp only at hld
              have z0 : errV pa 0 = .nilIface := rfl
              rw [z0] at hld
              have HLD := hid hld
              clear hld hnp z0
              go_wp2_with fail
              refine HLD.out.mono ?_
              rintro e wg ⟨hfg, vg, rfl, hog⟩
              have HCG := hid (HC.out.fr hfg)
              obtain ⟨ag, cg, hvg, -⟩ := own_len hog
              subst hvg
              have hsb := sameBytes_any _ _ _ _ _ _ wg hog.bs2 (HB.out.frame HCG.out.f fun _ _ => id)
              rw [decide_eq_true rfl] at hsb
              have HSB := hid hsb
              have hcg := HCG.out.f.cell HCW.out not_false
              have wn : IntKind.i64.wrap ((n : Int) + 1) = ((n + 1 : Nat) : Int) := by rw [IntWalk.i64_in _ (by have := HIN.out; have := HL3.out; omega)]; omega
              have HOG := hid hog.bs2
              clear hfg hog hsb HLD
              have HIS2 := hid (show Calls Tryd.prog 12 #[.nilIface, .int .i64 107] wg _ from is_num wg pa (HE.out.frame HCG.out.f) 0 (by unfold ErrNo; omega) 107)
              clear HSB hcg
              go_wp2_with fail
              refine HIS2.out.mono ?_
              rintro e wg2 ⟨rfl, hfg2⟩
              have HCG2 := hid (HCG.out.fr hfg2)
              have hsb := sameBytes_any _ _ _ _ _ _ wg2 (HOG.out.keep0 hfg2) (HB.out.frame HCG2.out.f fun _ _ => id)
              rw [decide_eq_true rfl] at hsb
              have HSB := hid hsb
              have hcg := HCG2.out.f.cell HCW.out not_false
              clear hfg2 hsb HIS2 HCG
              have HCG := HCG2
              clear HCG2
              go_wp2_with fail
              refine HSB.out.mono ?_
              rintro e wh ⟨rfl, hdr⟩
              have HCH := hid (HCG.out.fr (fr_drewN2 hdr))
              have hch := HCH.out.f.cell HCW.out not_false
              clear hdr HSB hcg
              go_wp2_with fail
              exact ⟨⟨i + 1, n + 1, true, r, by have := HLT.out; omega, by have := HIN.out; omega, by rw [show ((i + 1 : Nat) : Int) = (i : Int) + 1 by omega], rfl, rfl, hid HB.out, _, hid HCH.out, hid HLI.out, hid (by have := HQC1.out; have := HCL.out; omega)⟩, by simp [intOf]; have := HLT.out; omega⟩
            | true =>
              have hld := load_any HC.out HE.out HLI.out.ri.calm.1
              obtain ⟨nmx, hnp⟩ : ∃ nm, newP (gst q1 kW0) (gst q1 kW1) = (nm, r, ((n + 1 : Nat) : Int), 0) := by
                rcases HLI.out.np with ⟨h, -⟩ | ⟨-, h⟩
                · cases h
                · exact h
              rw [hnp] at hld
              dsimp only at hld
              have z0 : errV pa 0 = .nilIface := rfl
              rw [z0] at hld
              have HLD := hid hld
              clear hld hnp z0
              go_wp2_with fail
              refine HLD.out.mono ?_
              rintro e wg ⟨hfg, vg, rfl, hog⟩
              have HCG := hid (HC.out.fr hfg)
              obtain ⟨ag, cg, hvg, -⟩ := own_len hog
              subst hvg
              have hsb := sameBytes_any _ _ _ _ _ _ wg hog.bs2 (HB.out.frame HCG.out.f fun _ _ => id)
              rw [decide_eq_true rfl] at hsb
              have HSB := hid hsb
              have hcg := HCG.out.f.cell HCW.out not_false
              have wn : IntKind.i64.wrap ((n : Int) + 1) = ((n + 1 : Nat) : Int) := by rw [IntWalk.i64_in _ (by have := HIN.out; have := HL3.out; omega)]; omega
              have HOG := hid hog.bs2
              clear hfg hog hsb HLD
              go_wp2_with fail
              refine HSB.out.mono ?_
              rintro e wh ⟨rfl, hdr⟩
              have HCH := hid (HCG.out.fr (fr_drewN2 hdr))
              have hch := HCH.out.f.cell HCW.out not_false
              clear hdr HSB hcg
              go_wp2_with fail
              exact ⟨⟨i + 1, n + 1, true, r, by have := HLT.out; omega, by have := HIN.out; omega, by rw [show ((i + 1 : Nat) : Int) = (i : Int) + 1 by omega], rfl, rfl, hid HB.out, _, hid HCH.out, hid HLI.out, hid (by have := HQC1.out; have := HCL.out; omega)⟩, by simp [intOf]; have := HLT.out; omega⟩
      · have haI : ¬ (i : Int) < (arms.length : Int) := by omega
        clear ha hr
        obtain ⟨ar, har⟩ : ∃ ar : Int, p = p.arm ar := ⟨0, (calm_arm HL.out.ri.calm).symm⟩
        obtain ⟨wa, hwa⟩ : ∃ wa, wr = wa := ⟨_, rfl⟩
        subst hwa
        have HA := hid (show PW W wr X (p.arm ar) by rw [← har]; exact HP0.out)
        clear har
        have hsv := save_g (ar := ar) HA.out HE.out HL.out.ri (by have := HCL.out; have := HIN.out; have := HL3.out; omega) _ r (KB.arg HB.out HA.out.f) HRL.out (n + 1) (by rw [HL.out.num]; exact wrap_u n (by have := HIN.out; have := HL3.out; omega)) (by have := HIN.out; have := HL3.out; omega)
        have HSV := hid hsv
        clear hsv
        go_wp2_with fail
        refine HSV.out.mono ?_
        rintro e wb ⟨hfb, q, hq, hqc, hcase⟩
        clear HSV
        rcases hcase with ⟨rfl, hqd, hri, htu⟩ | ⟨rfl, hqd, hms⟩
        · have HQ := hid hq; have HQC := hid hqc
          have hli := HL.out.put (by have := HIN.out; have := HL3.out; omega) (by have := HRL.out; omega) hri htu
          have HLI := hid hli
          have HAR2 := hid (arm_p HQ.out 0 (by decide))
          clear hq hqc hqd hri htu hli hfb
          go_wp2_with fail
          refine HAR2.out.mono ?_
          rintro e wc ⟨rfl, hc, -⟩
          have hqa : (q.arm 0).calls ≤ p.calls + 6 ∧ (q.arm 0).files ≤ p.files + 6 := HQC.out
          generalize q.arm 0 = q1 at *
          have HC := hid hc; have HQC1 := hid hqa
          clear hc hqa HAR2
          have hld := load_any HC.out HE.out HLI.out.ri.calm.1
          obtain ⟨nmx, hnp⟩ : ∃ nm, newP (gst q1 kW0) (gst q1 kW1) = (nm, r, ((n + 1 : Nat) : Int), 0) := by
            rcases HLI.out.np with ⟨h, -⟩ | ⟨-, h⟩
            · cases h
            · exact h
          rw [hnp] at hld
          dsimp only at hld
          have z0 : errV pa 0 = .nilIface := rfl
          rw [z0] at hld
          have HLD := hid hld
          clear hld hnp z0
          go_wp2_with fail
          refine HLD.out.mono ?_
          rintro e wg ⟨hfg, vg, rfl, hog⟩
          have HCG := hid (HC.out.fr hfg)
          obtain ⟨ag, cg, hvg, -⟩ := own_len hog
          subst hvg
          have hsb := sameBytes_any _ _ _ _ _ _ wg hog.bs2 (HB.out.frame HCG.out.f fun _ _ => id)
          rw [decide_eq_true rfl] at hsb
          have HSB := hid hsb
          have hcg := HCG.out.f.cell HCW.out not_false
          have wn : IntKind.i64.wrap ((n : Int) + 1) = ((n + 1 : Nat) : Int) := by rw [IntWalk.i64_in _ (by have := HIN.out; have := HL3.out; omega)]; omega
          have HOG := hid hog.bs2
          clear hfg hog hsb HLD
          go_wp2_with fail
          refine HSB.out.mono ?_
          rintro e wh ⟨rfl, hdr⟩
          have HCH := hid (HCG.out.fr (fr_drewN2 hdr))
          have hch := HCH.out.f.cell HCW.out not_false
          clear hdr HSB hcg
          go_wp2_with fail
          exact ⟨⟨i + 1, n + 1, true, r, by have := HLT.out; omega, by have := HIN.out; omega, by rw [show ((i + 1 : Nat) : Int) = (i : Int) + 1 by omega], rfl, rfl, hid HB.out, _, hid HCH.out, hid HLI.out, hid (by have := HQC1.out; have := HCL.out; omega)⟩, by simp [intOf]; have := HLT.out; omega⟩
        · have HQ := hid hq; have HQC := hid hqc; have HMS := hid hms
          have HIS := hid (show Calls Tryd.prog 12 #[errV pa 110, .int .i64 110] wb _ from is_num wb pa (HE.out.frame HQ.out.f) 110 (by unfold ErrNo; omega) 110)
          have HQD := hid hqd
          have z9 : errV pa 110 = .iface 168 (.pointer (some (pa 9))) := rfl
          rw [z9] at HIS ⊢
          clear hq hqc hms hqd hfb z9
          go_wp2_with fail
          refine HIS.out.mono ?_
          rintro e wc ⟨rfl, hfc⟩
          have HQ2 := hid (HQ.out.fr hfc)
          have hdn := down_p HQ2.out
          rw [HQD.out] at hdn
          have HDN := hid hdn
          clear hfc HIS hdn
          go_wp2_with fail
          refine HDN.out.mono ?_
          rintro e wd ⟨rfl, rfl⟩
          clear HDN
          have HCRS := hid (crash_q HQ2.out (by have := HQC.out; have := HCL.out; have := HIN.out; have := HL3.out; omega) _ _ picks (HP.out.frame HQ2.out.f fun _ _ => id) (fun k hk => .inr hk) HRP.out (by have := HL3.out; omega))
          go_wp2_with fail
          refine HCRS.out.mono ?_
          rintro e we ⟨rfl, G, hG, hr, -⟩
          obtain ⟨hri, hgs⟩ := HMS.out.crash HL.out.ri (saveTo_two _) hG hr.ok.kn
          have hqa : (q.crash picks G).calls ≤ p.calls + 6 ∧ (q.crash picks G).files ≤ p.files + 6 := HQC.out
          generalize q.crash picks G = q1 at *
          have har := arm_p hr 0 (by decide)
          rw [calm_arm hri.calm] at har
          have HAR2 := hid har; have HQC1 := hid hqa; have HRI := hid hri
          clear har hqa HCRS hG
          go_wp2_with fail
          refine HAR2.out.mono ?_
          rintro e wf ⟨rfl, hc, -⟩
          clear hr HAR2
          rcases hgs with hgs | htu
          · have HLI := hid (HL.out.keep HRI.out hgs)
            have HC := hid hc
            clear hc hgs hri
            have hld := load_any HC.out HE.out HLI.out.ri.calm.1
            cases s with
            | false =>
              have hnp : ∃ b m, newP (gst q1 kW0) (gst q1 kW1) = (⟨#[]⟩, b, m, 107) := by
                rcases HLI.out.np with ⟨-, -, e0, e1⟩ | ⟨h, -⟩
                · rw [e0, e1]; exact ⟨_, _, rfl⟩
                · cases h
              obtain ⟨bx, mx, hnp⟩ := hnp
              rw [hnp] at hld
              dsimp only at hld
              have HIS2 := hid (fun (W2 : World) (hf : Fr (fun _ => False) W W2) => (show Calls Tryd.prog 12 #[errV pa 107, .int .i64 107] W2 _ from is_num W2 pa (HE.out.frame hf) 107 (by unfold ErrNo; omega) 107))
              have z6 : errV pa 107 = .iface 168 (.pointer (some (pa 6))) := rfl
              rw [z6] at hld HIS2
              have HLD := hid hld
              clear hld hnp z6
              go_wp2_with fail
              refine HLD.out.mono ?_
              rintro e wg ⟨hfg, vg, rfl, hog⟩
              have HCG := hid (HC.out.fr hfg)
              obtain ⟨ag, cg, hvg, -⟩ := own_len hog
              subst hvg
              clear hfg hog HLD
              go_wp2_with fail
              refine (HIS2.out wg HCG.out.f).mono ?_
              rintro e wh ⟨rfl, hfh⟩
              have HCH := hid (HCG.out.fr hfh)
              clear hfh HIS2
              go_wp2_with fail
              exact ⟨⟨i + 1, n, false, last, by have := HLT.out; omega, by have := HIN.out; omega, by rw [show ((i + 1 : Nat) : Int) = (i : Int) + 1 by omega], rfl, rfl, hid HLA.out, _, hid HCH.out, hid HLI.out, hid (by have := HQC1.out; have := HCL.out; omega)⟩, by simp [intOf]; have := HLT.out; omega⟩
            | true =>
              obtain ⟨nmx, hnp⟩ : ∃ nm, newP (gst q1 kW0) (gst q1 kW1) = (nm, last, (n : Int), 0) := by
                rcases HLI.out.np with ⟨h, -⟩ | ⟨-, h⟩
                · cases h
                · exact h
              rw [hnp] at hld
              dsimp only at hld
              have z0 : errV pa 0 = .nilIface := rfl
              rw [z0] at hld
              have HLD := hid hld
              clear hld hnp z0
              go_wp2_with fail
              refine HLD.out.mono ?_
              rintro e wg ⟨hfg, vg, rfl, hog⟩
              have HCG := hid (HC.out.fr hfg)
              obtain ⟨ag, cg, hvg, -⟩ := own_len hog
              subst hvg
              have hsb := sameBytes_any _ _ _ _ _ _ wg hog.bs2 (HLA.out.frame HCG.out.f fun _ _ => id)
              rw [decide_eq_true rfl] at hsb
              have HSB := hid hsb
              have wn : IntKind.i64.wrap ((n : Int) + 1) = ((n + 1 : Nat) : Int) := by rw [IntWalk.i64_in _ (by have := HIN.out; have := HL3.out; omega)]; omega
              have wne : ((n : Int) == ((n + 1 : Nat) : Int)) = false := by rw [beq_eq_false_iff_ne]; omega
              clear hfg hog hsb HLD
              go_wp2_with fail
              refine HSB.out.mono ?_
              rintro e wh ⟨rfl, hdr⟩
              have HCH := hid (HCG.out.fr (fr_drewN2 hdr))
              clear hdr HSB
              go_wp2_with fail
              exact ⟨⟨i + 1, n, true, last, by have := HLT.out; omega, by have := HIN.out; omega, by rw [show ((i + 1 : Nat) : Int) = (i : Int) + 1 by omega], rfl, rfl, hid HLA.out, _, hid HCH.out, hid HLI.out, hid (by have := HQC1.out; have := HCL.out; omega)⟩, by simp [intOf]; have := HLT.out; omega⟩
          · have HLI := hid (HL.out.put (by have := HIN.out; have := HL3.out; omega) (by have := HRL.out; omega) HRI.out htu)
            have HC := hid hc
            clear hc htu hri
            cases s with
            | false =>
              have hld := load_any HC.out HE.out HLI.out.ri.calm.1
              obtain ⟨nmx, hnp⟩ : ∃ nm, newP (gst q1 kW0) (gst q1 kW1) = (nm, r, ((n + 1 : Nat) : Int), 0) := by
                rcases HLI.out.np with ⟨h, -⟩ | ⟨-, h⟩
                · cases h
                · exact h
              rw [hnp] at hld
              dsimp only at hld
              have z0 : errV pa 0 = .nilIface := rfl
              rw [z0] at hld
              have HLD := hid hld
              clear hld hnp z0
              go_wp2_with fail
              refine HLD.out.mono ?_
              rintro e wg ⟨hfg, vg, rfl, hog⟩
              have HCG := hid (HC.out.fr hfg)
              obtain ⟨ag, cg, hvg, -⟩ := own_len hog
              subst hvg
              have hsb := sameBytes_any _ _ _ _ _ _ wg hog.bs2 (HB.out.frame HCG.out.f fun _ _ => id)
              rw [decide_eq_true rfl] at hsb
              have HSB := hid hsb
              have hcg := HCG.out.f.cell HCW.out not_false
              have wn : IntKind.i64.wrap ((n : Int) + 1) = ((n + 1 : Nat) : Int) := by rw [IntWalk.i64_in _ (by have := HIN.out; have := HL3.out; omega)]; omega
              have HOG := hid hog.bs2
              clear hfg hog hsb HLD
              have HIS2 := hid (show Calls Tryd.prog 12 #[.nilIface, .int .i64 107] wg _ from is_num wg pa (HE.out.frame HCG.out.f) 0 (by unfold ErrNo; omega) 107)
              clear HSB hcg
              go_wp2_with fail
              refine HIS2.out.mono ?_
              rintro e wg2 ⟨rfl, hfg2⟩
              have HCG2 := hid (HCG.out.fr hfg2)
              have hsb := sameBytes_any _ _ _ _ _ _ wg2 (HOG.out.keep0 hfg2) (HB.out.frame HCG2.out.f fun _ _ => id)
              rw [decide_eq_true rfl] at hsb
              have HSB := hid hsb
              have hcg := HCG2.out.f.cell HCW.out not_false
              clear hfg2 hsb HIS2 HCG
              have HCG := HCG2
              clear HCG2
              go_wp2_with fail
              refine HSB.out.mono ?_
              rintro e wh ⟨rfl, hdr⟩
              have HCH := hid (HCG.out.fr (fr_drewN2 hdr))
              have hch := HCH.out.f.cell HCW.out not_false
              clear hdr HSB hcg
              go_wp2_with fail
              exact ⟨⟨i + 1, n + 1, true, r, by have := HLT.out; omega, by have := HIN.out; omega, by rw [show ((i + 1 : Nat) : Int) = (i : Int) + 1 by omega], rfl, rfl, hid HB.out, _, hid HCH.out, hid HLI.out, hid (by have := HQC1.out; have := HCL.out; omega)⟩, by simp [intOf]; have := HLT.out; omega⟩
            | true =>
              have hld := load_any HC.out HE.out HLI.out.ri.calm.1
              obtain ⟨nmx, hnp⟩ : ∃ nm, newP (gst q1 kW0) (gst q1 kW1) = (nm, r, ((n + 1 : Nat) : Int), 0) := by
                rcases HLI.out.np with ⟨h, -⟩ | ⟨-, h⟩
                · cases h
                · exact h
              rw [hnp] at hld
              dsimp only at hld
              have z0 : errV pa 0 = .nilIface := rfl
              rw [z0] at hld
              have HLD := hid hld
              clear hld hnp z0
              go_wp2_with fail
              refine HLD.out.mono ?_
              rintro e wg ⟨hfg, vg, rfl, hog⟩
              have HCG := hid (HC.out.fr hfg)
              obtain ⟨ag, cg, hvg, -⟩ := own_len hog
              subst hvg
              have hsb := sameBytes_any _ _ _ _ _ _ wg hog.bs2 (HB.out.frame HCG.out.f fun _ _ => id)
              rw [decide_eq_true rfl] at hsb
              have HSB := hid hsb
              have hcg := HCG.out.f.cell HCW.out not_false
              have wn : IntKind.i64.wrap ((n : Int) + 1) = ((n + 1 : Nat) : Int) := by rw [IntWalk.i64_in _ (by have := HIN.out; have := HL3.out; omega)]; omega
              have HOG := hid hog.bs2
              clear hfg hog hsb HLD
              go_wp2_with fail
              refine HSB.out.mono ?_
              rintro e wh ⟨rfl, hdr⟩
              have HCH := hid (HCG.out.fr (fr_drewN2 hdr))
              have hch := HCH.out.f.cell HCW.out not_false
              clear hdr HSB hcg
              go_wp2_with fail
              exact ⟨⟨i + 1, n + 1, true, r, by have := HLT.out; omega, by have := HIN.out; omega, by rw [show ((i + 1 : Nat) : Int) = (i : Int) + 1 by omega], rfl, rfl, hid HB.out, _, hid HCH.out, hid HLI.out, hid (by have := HQC1.out; have := HCL.out; omega)⟩, by simp [intOf]; have := HLT.out; omega⟩
    · obtain rfl : i = l.length := by omega
      have hltI : ¬ (l.length : Int) < (l.length : Int) := by omega
      clear hlt hi hn
      go_wp2_with fail
      go_ret
      exact ⟨rfl, HP0.out.f⟩
end Go.Proofs.YtpceckmjoicdlaaDoor
