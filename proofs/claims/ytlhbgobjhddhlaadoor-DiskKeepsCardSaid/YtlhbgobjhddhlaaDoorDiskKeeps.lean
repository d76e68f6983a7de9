/- The statement DiskKeeps, walked. -/
import Derived.Test.YtlhbgobjhddhlaaDoorDiskT
namespace Go.Proofs.YtlhbgobjhddhlaaDoor
open Go.RowKit
variable {w0 w w' : World} {pa : Nat → Addr} {nm : ByteArray} {X : Nat}

abbrev nF : ByteArray := ⟨#[102]⟩
abbrev nG : ByteArray := ⟨#[103]⟩
theorem nFG : nG ≠ nF := by decide +kernel
/-- What stands ahead of the crash. -/
structure KeepI (F G : Nat) (a b c : List UInt8) (p : PS) : Prop where
  ne : F ≠ G
  kept : p.kept = pt [] nF F
  ch : p.ch = [⟨nG, ⟨#[]⟩, some G⟩]
  fF : p.fs F = ⟨1, a ++ b, a.length⟩
  fG : ∃ n, p.fs G = ⟨n, c, c.length⟩
/-- What stands behind it. -/
theorem KeepI.back {F G : Nat} {a b c : List UInt8} {p : PS} (h : KeepI F G a b c p) {picks : List Int} {L : List Nat} (hL : p.order picks L) :
    ∃ n, a.length ≤ n ∧ n ≤ a.length + b.length ∧ lk (p.crash picks L).names nF = some F ∧ ((p.crash picks L).fs F).by_ = (a ++ b).take n ∧ ((p.crash picks L).fs F).sy = n ∧
      (lk (p.crash picks L).names nG = none ∨ (lk (p.crash picks L).names nG = some G ∧ ((p.crash picks L).fs G).by_.length = c.length)) := by
  have hcp : p.cp picks ≤ 1 := by have := pick_le picks 0 p.ch.length; unfold PS.cp; rw [h.ch] at this ⊢; exact this
  have hk1 : p.kp 1 = pt (pt [] nF F) nG G := by
    unfold PS.kp
    rw [h.ch, h.kept]
    simp [applyM]
  have hnn : (p.crash picks L).names = p.kp (p.cp picks) := rfl
  rw [hnn]
  have hc : p.cp picks = 0 ∨ p.cp picks = 1 := by omega
  have hF : lk (p.kp (p.cp picks)) nF = some F := by
    rcases hc with e | e
    · rw [e, kp0, h.kept]; exact lk_one _ _
    · rw [e, hk1, lk_pt, if_neg nFG.symm]; exact lk_one _ _
  have hks : Ks (p.kp (p.cp picks)) := by
    rcases hc with e | e
    · rw [e, kp0, h.kept]; exact ks_pt (by simp [Ks]) _ _
    · rw [e, hk1]; exact ks_pt (ks_pt (by simp [Ks]) _ _) _ _
  have hmF : F ∈ L := (hL.2.1 F).2 ⟨nF, (lk_mem hks).1 hF⟩
  obtain ⟨m, hm⟩ : ∃ m, pick picks (L.idxOf F + 1) ((p.fs F).by_.length - (p.fs F).sy) = m := ⟨_, rfl⟩
  have hml := pick_le picks (L.idxOf F + 1) ((p.fs F).by_.length - (p.fs F).sy)
  rw [hm, h.fF] at hml
  simp only [List.length_append] at hml
  have hcF : (p.crash picks L).fs F = ⟨1, (a ++ b).take (a.length + m), a.length + m⟩ := by
    simp only [PS.crash]
    rw [if_pos hmF, hm, h.fF]
    rfl
  refine ⟨a.length + m, by omega, by omega, hF, by rw [hcF], by rw [hcF], ?_⟩
  rcases hc with e | e
  · left
    rw [e, kp0, h.kept, lk_pt, if_neg nFG]
    rfl
  · right
    have hG : lk (p.kp (p.cp picks)) nG = some G := by rw [e, hk1]; exact (lk_pt _ _ _ _).trans (if_pos rfl)
    refine ⟨hG, ?_⟩
    have hmG : G ∈ L := (hL.2.1 G).2 ⟨nG, (lk_mem hks).1 hG⟩
    obtain ⟨n, hn⟩ := h.fG
    simp only [PS.crash]
    rw [if_pos hmG, hn]
    unfold cutF
    simp only [List.length_take]
    omega
set_option maxRecDepth 100000 in
set_option maxHeartbeats 6400000 in
theorem diskKeeps_any (pa : Nat → Addr) (va vb vc vp : Value) (a b c : List UInt8) (picks : List Int) (W : World) (ha : Bs (fun _ => True) W va a) (hb : Bs (fun _ => True) W vb b) (hc : Bs (fun _ => True) W vc c) (hp : Is (fun _ => True) W vp picks) (hr : ∀ k, -9223372036854775808 ≤ picks.getD k 0 ∧ picks.getD k 0 ≤ 9223372036854775807) (hE : Sent17 W pa) :
    Calls Tryd.prog 5 #[va, vb, vc, vp] W fun e w' => e = .returned (.bool true) ∧ Fr (fun _ => False) W w' := by
  have HFI := hid (dfirst_any (w := W) hE.s6)
  have HA := hid (ha.mono (E := fun k => k < W.heap.size) fun _ h _ => h)
  have HB := hid (hb.mono (E := fun k => k < W.heap.size) fun _ h _ => h)
  have HC := hid (hc.mono (E := fun k => k < W.heap.size) fun _ h _ => h)
  have hp' : Is (fun k => k < W.heap.size) W vp picks := by
    obtain ⟨x, y, e, h1, h2, h3⟩ := hp
    refine ⟨x, y, e, h1, h2, fun k hk => ?_⟩
    obtain ⟨b, o, u, e, -, hc, hu⟩ := h3 k hk
    exact ⟨b, o, u, e, World.block_lt_of_cell? W _ hc, hc, hu⟩
  have HP := hid hp'; have HR := hid hr; have HE := hid hE
  obtain ⟨aa, ca, rfl, ha1, -⟩ := id ha
  obtain ⟨ab, cb, rfl, hb1, -⟩ := id hb
  obtain ⟨ac, cc, rfl, hc1, -⟩ := id hc
  obtain ⟨ap, cp, rfl, -⟩ := id hp
  clear ha hb hc hp hp' hr hE
  go_enter Tryd.func5, Tryd.ntmps5
  go_wp2_with fail
  refine HFI.out.mono ?_
  rintro e w1 ⟨rfl, hf1⟩
  have HF1 := hid hf1
  clear hf1
  by_cases l1 : 300 < a.length
  · have l1I : (300 : Int) < a.length := by omega
    go_wp2_with fail
    go_ret
    exact ⟨rfl, HF1.out⟩
  have l1I : ¬ (300 : Int) < a.length := by omega
  by_cases l2 : 300 < b.length
  · have l2I : (300 : Int) < b.length := by omega
    go_wp2_with fail
    go_ret
    exact ⟨rfl, HF1.out⟩
  have l2I : ¬ (300 : Int) < b.length := by omega
  by_cases l3 : 300 < c.length
  · have l3I : (300 : Int) < c.length := by omega
    go_wp2_with fail
    go_ret
    exact ⟨rfl, HF1.out⟩
  have l3I : ¬ (300 : Int) < c.length := by omega
  by_cases l4 : 10 < picks.length
  · have l4I : (10 : Int) < picks.length := by omega
    go_wp2_with fail
    go_ret
    exact ⟨rfl, HF1.out⟩
  have l4I : ¬ (10 : Int) < picks.length := by omega
  have HN := hid (new_p (HE.out.s6) HF1.out 2000)
  go_wp2_with fail
  refine HN.out.mono ?_
  rintro e w3 ⟨-, h3⟩
  obtain ⟨X, rfl, h3, -⟩ := h3 (by decide +kernel)
  have H3 := hid h3
  clear h3 l1I l2I l3I l4I
  go_wp2_with fail
  refine (create_p H3.out HE.out.s6 (nm := nF) ⟨rfl, rfl⟩ (by decide +kernel) rfl ⟨Nat.zero_le _, Nat.zero_le _⟩).mono ?_
  rintro e w4 ⟨rfl, F, -, h4, -⟩
  have H4 := hid h4
  clear h4
  go_wp2_with fail
  refine (syncdir_p H4.out HE.out.s6 ⟨rfl, rfl⟩ (by simp [PS.create, PS.new])).mono ?_
  rintro e w5 ⟨rfl, h5, -⟩
  have H5 := hid h5
  clear h5
  go_wp2_with fail
  refine (append_q H5.out HE.out.s6 (nm := nF) ⟨rfl, rfl⟩ (lk_one _ _) _ a _ (HA.out.frame H5.out.f fun _ _ => id) (fun k hk => .inr hk) (by simp [PS.used, PS.syncDir, PS.create, PS.new, pt, dl, sumF]; omega) (by simp [PS.syncDir, PS.create, PS.new])).mono ?_
  rintro e w6 ⟨rfl, h6, -⟩
  have H6 := hid h6
  clear h6
  go_wp2_with fail
  refine (sync_p H6.out HE.out.s6 (nm := nF) ⟨rfl, rfl⟩ (lk_one _ _) (by simp [PS.put, PS.syncDir, PS.create, PS.new])).mono ?_
  rintro e w7 ⟨rfl, h7, -⟩
  have H7 := hid h7
  clear h7
  go_wp2_with fail
  refine (append_q H7.out HE.out.s6 (nm := nF) ⟨rfl, rfl⟩ (lk_one _ _) _ b _ (HB.out.frame H7.out.f fun _ _ => id) (fun k hk => .inr hk) (by simp [PS.used, PS.put, PS.syncDir, PS.create, PS.new, pt, dl, sumF]; omega) (by simp [PS.put, PS.syncDir, PS.create, PS.new])).mono ?_
  rintro e w8 ⟨rfl, h8, -⟩
  have hq : ∃ p : PS, PW W w8 X p ∧ p.names = pt [] nF F ∧ p.kept = pt [] nF F ∧ p.ch = [] ∧ p.room = 2000 ∧ p.calls = 5 ∧ p.files = 1 ∧ p.calm ∧ p.fs F = ⟨1, a ++ b, a.length⟩ := ⟨_, h8, rfl, rfl, rfl, rfl, rfl, rfl, ⟨rfl, rfl⟩, by simp [PS.put, PS.syncDir, PS.create, PS.new]⟩
  clear h8
  obtain ⟨p, h8, q1, q2, q3, q4, q5, q6, q7, q8⟩ := hq
  have H8 := hid h8; have Q1 := hid q1; have Q2 := hid q2; have Q3 := hid q3; have Q4 := hid q4; have Q5 := hid q5; have Q6 := hid q6; have Q7 := hid q7; have Q8 := hid q8
  clear h8 q1 q2 q3 q4 q5 q6 q7 q8
  go_wp2_with fail
  refine (create_p H8.out HE.out.s6 (nm := nG) Q7.out (by decide +kernel) (by rw [Q1.out, lk_pt, if_neg nFG]; rfl) ⟨by rw [Q5.out]; decide, by rw [Q6.out]; decide⟩).mono ?_
  rintro e w9 ⟨rfl, G, hG, h9, -⟩
  have hFG : F ≠ G := hG F (.inl ⟨nF, by rw [Q1.out]; simp [pt]⟩)
  have H9 := hid h9; have HFG := hid hFG
  clear h9 hG hFG
  go_wp2_with fail
  refine (append_q H9.out HE.out.s6 (nm := nG) Q7.out ((lk_pt _ _ _ _).trans (if_pos rfl)) _ c _ (HC.out.frame H9.out.f fun _ _ => id) (fun k hk => .inr hk) (by
    have h1 := PS.used_create (p := p) (nm := nG) (F := G) (by rw [Q1.out, lk_pt, if_neg nFG]; rfl) (fun k hk => by
      rcases hk with ⟨n, hn⟩ | ⟨n, hn⟩ | ⟨x, hx, -⟩
      · rw [Q1.out, pt_nil_mem] at hn
        simp only [Prod.mk.injEq] at hn
        rw [hn.2]; exact HFG.out
      · rw [Q2.out, pt_nil_mem] at hn
        simp only [Prod.mk.injEq] at hn
        rw [hn.2]; exact HFG.out
      · rw [Q3.out] at hx; simp at hx)
    rw [h1, used_one Q1.out, Q8.out]
    show _ ≤ p.room
    rw [Q4.out]
    simp only [List.length_append]
    omega) (by show p.calls + 1 ≤ _; rw [Q5.out]; decide)).mono ?_
  rintro e w10 ⟨rfl, h10, -⟩
  have H10 := hid h10
  clear h10
  go_wp2_with fail
  refine (sync_p H10.out HE.out.s6 (nm := nG) Q7.out ((lk_pt _ _ _ _).trans (if_pos rfl)) (by show p.calls + 1 + 1 ≤ _; rw [Q5.out]; decide)).mono ?_
  rintro e w11 ⟨rfl, h11, -⟩
  have hq : ∃ p : PS, PW W w11 X p ∧ KeepI F G a b c p ∧ p.calls ≤ 10 := ⟨_, h11, ⟨HFG.out, Q2.out, by show p.ch ++ _ = _; rw [Q3.out]; rfl, by
    simp only [PS.put, PS.create]
    rw [upd_ne _ _ HFG.out, upd_ne _ _ HFG.out, upd_ne _ _ HFG.out, Q8.out], ⟨p.files + 1, by simp [PS.put, PS.create]⟩⟩, by show p.calls + 1 + 1 + 1 ≤ _; rw [Q5.out]; decide⟩
  clear h11
  obtain ⟨p2, h11, hk, hcl⟩ := hq
  have H11 := hid h11; have HK := hid hk; have HCL := hid hcl
  clear h11 hk hcl H10 H9 H8 H7 H6 H5 H4 H3
  go_wp2_with fail
  refine (crash_q H11.out (by have := HCL.out; omega) _ _ picks (HP.out.frame H11.out.f fun _ _ => id) (fun k hk => .inr hk) HR.out (by omega)).mono ?_
  rintro e w12 ⟨rfl, L, hL, h12, -⟩
  obtain ⟨n, hn1, hn2, k1, k2, k3, k4⟩ := HK.out.back hL
  have hcm : (p2.crash picks L).calm := ⟨rfl, rfl⟩
  have H12 := hid h12; have K1 := hid k1; have K2 := hid k2; have K3 := hid k3; have K4 := hid k4; have HCM := hid hcm
  clear h12 k1 k2 k3 k4 hcm hL
  generalize p2.crash picks L = p3 at *
  have hlen : (p3.fs F).by_.length = n := by rw [K2.out, List.length_take, List.length_append]; omega
  have HLN := hid (len_p H12.out HE.out.s6 (nm := nF) (k := F) HCM.out K1.out)
  rw [hlen] at HLN
  have g1 : ¬ (n : Int) < a.length := by omega
  have wab : IntKind.i64.wrap ((a.length : Int) + b.length) = (a.length : Int) + b.length := IntWalk.i64_in _ (by omega)
  have g2 : ¬ (a.length : Int) + b.length < n := by omega
  have HLEN := hid hlen
  clear hlen
  go_wp2_with fail
  refine HLN.out.mono ?_
  rintro e w13 ⟨rfl, hf13⟩
  have H13 := hid (H12.out.fr hf13)
  clear hf13
  have HRD := hid (read_p H13.out HE.out.s6 (nm := nF) (k := F) HCM.out K1.out 0 n (by rw [HLEN.out]; omega))
  rw [show ((p3.fs F).by_.take (0 + n)).drop 0 = (a ++ b).take n by rw [List.drop_zero, Nat.zero_add, K2.out, List.take_take, Nat.min_self]] at HRD
  go_wp2_with fail
  refine HRD.out.mono ?_
  rintro e w14 ⟨hf14, v14, rfl, hv14⟩
  have H14 := hid (H13.out.fr hf14)
  have hb14 := hv14.bs2
  have hl14 : ((a ++ b).take n).length = n := by rw [List.length_take, List.length_append]; omega
  obtain ⟨av, cv, hve, -⟩ := own_len hv14
  rw [hl14] at hve
  subst hve
  have HV14 := hid hb14
  clear hf14 hv14 g1 g2 wab hb14 hl14
  obtain ⟨ii, i1, i2, i3, i4⟩ := info_parts Tryd.info_byte
  have HAW := hid fun (W2 : World) (hf : Fr (fun _ => False) W W2) => HA.out.frame hf fun _ _ => id
  have HBW := hid fun (W2 : World) (hf : Fr (fun _ => False) W W2) => HB.out.frame hf fun _ _ => id
  go_wp2_with (first
    | (at_make
       refine wpList_make_own _ rfl _ _ 30 rfl w14.heap.size 5 ii (.int .u8 0) 1 Tryd.underlying30 i1 i2 i3 .i64 .i64 _ 700 rfl rfl rfl (by rw [i4]; decide) (by decide) (Nat.le_refl _) ?_
       intro w15 hown0 hgrow0
       have hf15 : Fr (fun _ => False) w14 w15 := (Fr.of_grownBy hgrow0).mono (fun _ _ e => by cases e)
       have ho15 : OB w14.heap.size w15 (.slice (some ⟨w14.heap.size, 0, none⟩) 0 700) [] := hown0
       obtain ⟨v16, w16, hrun16, ho16, hf16⟩ := run_appendB ho15 (HAW.out w15 (H14.out.f.trans' hf15)) (by simp; omega) hf15.size 30
       have hf16' : Fr (fun _ => False) w14 w16 := hf15.trans (U := fun _ => False) hf16 (fun _ _ h => h) fun k hk e => by
         have := (ho15.lt k e.symm).1
         omega
       obtain ⟨v17, w17, hrun17, ho17, hf17⟩ := run_appendB ho16 (HBW.out w16 (H14.out.f.trans' hf16')) (by simp; omega) hf16'.size 30
       have hf17' : Fr (fun _ => False) w14 w17 := hf16'.trans (U := fun _ => False) hf17 (fun _ _ h => h) fun k hk e => by
         have := (ho16.lt k e.symm).1
         omega
       clear hown0 hgrow0 hf15 ho15 ho16 hf16 hf16' hf17)
    | (at_builtin; go_must (first | refine Lib.wpList_append_run _ rfl (.tmp 131) (.tmp 132) 30 30 rfl _ _ rfl rfl _ _ hrun16 ?_ | refine Lib.wpList_append_run _ rfl (.tmp 133) (.tmp 134) 30 30 rfl _ _ rfl rfl _ _ hrun17 ?_)))
  have H17 := hid (H14.out.fr hf17')
  have HV17 := hid (HV14.out.keep0 hf17')
  have hb17 := ho17.bs2
  obtain ⟨a17, c17, hve, hml17⟩ := own_len ho17
  have hlab : ([] ++ a ++ b).length = a.length + b.length := by simp
  have hcap : a.length + b.length ≤ c17 := by
    rcases ho17.2 with ⟨e, h0⟩ | ⟨g, cap, cur, e, -, -, h1, -⟩
    · rw [hve] at e
      simp only [Value.slice.injEq] at e
      omega
    · rw [hve] at e
      simp only [Value.slice.injEq] at e
      obtain ⟨-, -, rfl⟩ := e
      omega
  subst hve
  rw [List.nil_append] at hb17
  have hB17 := hb17.upto n (by simp; omega)
  rw [hlab]
  have HB17 := hid hB17
  have hnI : (n : Int) ≤ c17 ∧ (0 : Int) ≤ n := by omega
  have HSY := hid (synced_p H17.out HE.out.s6 (nm := nF) (k := F) HCM.out K1.out)
  rw [K3.out] at HSY
  have hnn : ((n : Int) != n) = false := by simp
  clear hf17' ho17 hb17 hlab hcap hB17 hml17 hrun16 hrun17 HAW HBW i1 i2 i3 i4
  go_wp2_with fail
  refine HSY.out.mono ?_
  rintro e w18 ⟨rfl, hf18⟩
  have H18 := hid (H17.out.fr hf18)
  have HSB := hid (sameBytes_any _ _ _ _ _ _ w18 (HV17.out.keep0 hf18) (HB17.out.keep0 hf18))
  rw [decide_eq_true rfl] at HSB
  clear hf18
  go_wp2_with fail
  refine HSB.out.mono ?_
  rintro e w19 ⟨rfl, q19, rfl⟩
  have H19 := hid (H18.out.fr ((Fr.refl (fun _ => False) w18).drewN q19))
  rcases K4.out with k4 | ⟨k4, k5⟩
  · have HLG := hid (len0_p H19.out HE.out.s6 (nm := nG) HCM.out (by decide) k4)
    have z1 : errV pa 107 = .iface 148 (.pointer (some (pa 6))) := rfl
    have HIS := hid (fun (W2 : World) (hf : Fr (fun _ => False) W W2) => is_num W2 pa (HE.out.frame hf) 107 (by unfold ErrNo; omega) 107)
    rw [z1] at HLG HIS
    have hdc : decide (((107 : Nat) : Int) = 107) = true := by decide
    rw [hdc] at HIS
    clear z1 hdc k4
    go_wp2_with fail
    refine HLG.out.mono ?_
    rintro e w20 ⟨rfl, hf20⟩
    have H20 := hid (H19.out.fr hf20)
    clear hf20
    go_wp2_with fail
    refine (HIS.out w20 H20.out.f).mono ?_
    rintro e w21 ⟨rfl, hf21⟩
    have HFin := hid (H20.out.f.trans' hf21)
    clear hf21
    go_wp2_with fail
    go_ret
    exact ⟨rfl, HFin.out⟩
  · have HLG := hid (len_p H19.out HE.out.s6 (nm := nG) (k := G) HCM.out k4)
    rw [k5] at HLG
    have hcc : ((c.length : Int) == c.length) = true := by simp
    clear k4 k5
    go_wp2_with fail
    refine HLG.out.mono ?_
    rintro e w20 ⟨rfl, hf20⟩
    have HFin := hid (H19.out.f.trans' hf20)
    clear hf20
    go_wp2_with fail
    go_ret
    exact ⟨rfl, HFin.out⟩
end Go.Proofs.YtlhbgobjhddhlaaDoor
