/- The statement DiskMoves, walked. -/
import Derived.Test.YtlhbgobjhddhlaaDoorDiskU
import Derived.Test.YtlhbgobjhddhlaaDoorRefs
namespace Go.Proofs.YtlhbgobjhddhlaaDoor
open Go.RowKit
variable {w0 w w' : World} {pa : Nat → Addr} {nm : ByteArray} {X : Nat}

theorem fr_drewN (h : ∃ n, w.drewN n = w') : Fr (fun _ => False) w w' := by
  obtain ⟨n, rfl⟩ := h
  exact (Fr.refl _ _).drewN n
abbrev nOld : ByteArray := ⟨#[111, 108, 100]⟩
abbrev nNew : ByteArray := ⟨#[110, 101, 119]⟩
/-- What stands ahead of the crash. -/
structure MoveI (F G : Nat) (a b : List UInt8) (dir : Bool) (p : PS) : Prop where
  names : p.names = [(nOld, G)]
  kept : p.kept = if dir then [(nOld, G)] else [(nNew, G), (nOld, F)]
  ch : p.ch = if dir then [] else [renC nNew nOld G]
  fF : ∃ n, p.fs F = ⟨n, a, a.length⟩
  fG : ∃ n, p.fs G = ⟨n, b, b.length⟩
  calls : p.calls ≤ 10
theorem moved_names (F G : Nat) : applyM [(nNew, G), (nOld, F)] (renC nNew nOld G) = [(nOld, G)] := by kernel_rfl
theorem MoveI.back {F G : Nat} {a b : List UInt8} {dir : Bool} {p : PS} (h : MoveI F G a b dir p) (q : Int) {L : List Nat} (hL : p.order [q] L) :
    ((p.crash [q] L).names = [(nOld, G)] ∧ ((p.crash [q] L).fs G).by_ = b) ∨ (dir = false ∧ (p.crash [q] L).names = [(nNew, G), (nOld, F)] ∧ ((p.crash [q] L).fs F).by_ = a) := by
  have hpick : ∀ k n, pick [q] (k + 1) n = 0 := fun k n => by unfold pick; rw [if_pos (by simp)]
  have key : ∀ k (f : FS), p.fs k = f → f.sy = f.by_.length → k ∈ L → ((p.crash [q] L).fs k).by_ = f.by_ := fun k f h1 h2 h3 => by
    simp only [PS.crash]
    rw [if_pos h3, hpick, h1]
    unfold cutF
    simp only [Nat.add_zero]
    rw [h2, List.take_length]
  have hnn : (p.crash [q] L).names = p.kp (p.cp [q]) := rfl
  have hcp : p.cp [q] ≤ p.ch.length := pick_le _ _ _
  obtain ⟨n1, f1⟩ := h.fF
  obtain ⟨n2, f2⟩ := h.fG
  have fin1 : p.kp (p.cp [q]) = [(nOld, G)] → ((p.crash [q] L).names = [(nOld, G)] ∧ ((p.crash [q] L).fs G).by_ = b) := fun e => by
    refine ⟨hnn.trans e, key G _ f2 rfl ((hL.2.1 G).2 ⟨nOld, by rw [e]; simp⟩)⟩
  cases dir with
  | true =>
    have h1 := h.kept
    have h2 := h.ch
    simp only [if_true] at h1 h2
    left
    refine fin1 ?_
    rw [cp_ch _ _ h2, kp0]
    exact h1
  | false =>
    have h1 := h.kept
    have h2 := h.ch
    simp only [Bool.false_eq_true, if_false] at h1 h2
    rw [h2] at hcp
    have hc : p.cp [q] = 0 ∨ p.cp [q] = 1 := by simp at hcp; omega
    rcases hc with e | e
    · right
      have e2 : p.kp (p.cp [q]) = [(nNew, G), (nOld, F)] := by rw [e, kp0]; exact h1
      exact ⟨rfl, hnn.trans e2, key F _ f1 rfl ((hL.2.1 F).2 ⟨nOld, by rw [e2]; simp⟩)⟩
    · left
      refine fin1 ?_
      rw [e]
      unfold PS.kp
      rw [h1, h2]
      exact moved_names F G
set_option maxRecDepth 100000 in
set_option maxHeartbeats 6400000 in
theorem diskMoves_any (pa : Nat → Addr) (va vb : Value) (a b : List UInt8) (dir : Bool) (q : Int) (b3 : -9223372036854775808 ≤ q) (c3 : q ≤ 9223372036854775807) (W : World) (ha : Bs (fun _ => True) W va a) (hb : Bs (fun _ => True) W vb b) (hE : S6 W.heap.size W pa) :
    Calls Tryd.prog 9 #[va, vb, .bool dir, .int .i64 q] W fun e w' => e = .returned (.bool true) ∧ Fr (fun _ => False) W w' := by
  have HFI := hid (dfirst_any (w := W) hE)
  have HA := hid (ha.mono (E := fun k => k < W.heap.size) fun _ h _ => h)
  have HB := hid (hb.mono (E := fun k => k < W.heap.size) fun _ h _ => h)
  obtain ⟨aa, ca, rfl, ha1, -⟩ := id ha
  obtain ⟨ab, cb, rfl, hb1, -⟩ := id hb
  have HE := hid hE
  clear ha hb hE
  go_enter Tryd.func9, Tryd.ntmps9
  go_wp2_with fail
  refine HFI.out.mono ?_
  rintro e w1 ⟨rfl, hf1⟩
  have HF1 := hid hf1
  clear hf1
  by_cases l1 : 200 < a.length
  · have l1I : (200 : Int) < a.length := by omega
    go_wp2_with fail
    go_ret
    exact ⟨rfl, HF1.out⟩
  have l1I : ¬ (200 : Int) < a.length := by omega
  by_cases l2 : 200 < b.length
  · have l2I : (200 : Int) < b.length := by omega
    go_wp2_with fail
    go_ret
    exact ⟨rfl, HF1.out⟩
  have l2I : ¬ (200 : Int) < b.length := by omega
  have HN := hid (new_p HE.out HF1.out 1000)
  go_wp2_with fail
  refine HN.out.mono ?_
  rintro e w3 ⟨-, h3⟩
  obtain ⟨X, rfl, h3, -⟩ := h3 (by decide +kernel)
  have H3 := hid h3
  clear h3 l1I l2I
  go_wp2_with fail
  refine (create_p H3.out HE.out (nm := nOld) ⟨rfl, rfl⟩ (by decide +kernel) rfl ⟨Nat.zero_le _, Nat.zero_le _⟩).mono ?_
  rintro e w4 ⟨rfl, F, -, h4, -⟩
  have H4 := hid h4
  clear h4
  go_wp2_with fail
  refine (append_q H4.out HE.out (nm := nOld) ⟨rfl, rfl⟩ (lk_one _ _) _ a _ (HA.out.frame H4.out.f fun _ _ => id) (fun k hk => .inr hk) (by simp [PS.used, PS.create, PS.new, pt, dl, sumF]; omega) (by simp [PS.create, PS.new])).mono ?_
  rintro e w5 ⟨rfl, h5, -⟩
  have H5 := hid h5
  clear h5
  go_wp2_with fail
  refine (sync_p H5.out HE.out (nm := nOld) ⟨rfl, rfl⟩ (lk_one _ _) (by simp [PS.put, PS.create, PS.new])).mono ?_
  rintro e w6 ⟨rfl, h6, -⟩
  have hq : ∃ p : PS, PW W w6 X p ∧ p.names = pt [] nOld F ∧ p.kept = [] ∧ p.room = 1000 ∧ p.calls = 3 ∧ p.files = 1 ∧ p.calm ∧ p.fs F = ⟨1, a, a.length⟩ ∧ p.ch = [⟨nOld, ⟨#[]⟩, some F⟩] := ⟨_, h6, rfl, rfl, rfl, rfl, rfl, ⟨rfl, rfl⟩, by simp [PS.put, PS.create, PS.new], rfl⟩
  clear h6 H5 H4 H3
  obtain ⟨p, h6, q1, q2, q3, q4, q5, q6, q7, q8⟩ := hq
  have H6 := hid h6; have Q1 := hid q1; have Q2 := hid q2; have Q3 := hid q3; have Q4 := hid q4; have Q5 := hid q5; have Q6 := hid q6; have Q7 := hid q7; have Q8 := hid q8
  have hno : lk p.names nNew = none := by rw [q1, lk_pt, if_neg (by decide +kernel)]; rfl
  have HNO := hid hno
  clear h6 q1 q2 q3 q4 q5 q6 q7 q8 hno
  go_wp2_with fail
  refine (create_p H6.out HE.out (nm := nNew) Q6.out (by decide +kernel) HNO.out ⟨by rw [Q4.out]; decide, by rw [Q5.out]; decide⟩).mono ?_
  rintro e w7 ⟨rfl, G, hG, h7, -⟩
  have hFG : F ≠ G := hG F (.inl ⟨nOld, by rw [Q1.out]; simp [pt]⟩)
  have hus : (p.create nNew G).used = a.length := by rw [PS.used_create HNO.out hG, used_one Q1.out, Q7.out]
  have H7 := hid h7; have HFG := hid hFG; have HUS := hid hus
  clear h7 hG hFG hus
  go_wp2_with fail
  refine (append_q H7.out HE.out (nm := nNew) Q6.out ((lk_pt _ _ _ _).trans (if_pos rfl)) _ b _ (HB.out.frame H7.out.f fun _ _ => id) (fun k hk => .inr hk) (by rw [HUS.out]; show _ ≤ p.room; rw [Q3.out]; omega) (by show p.calls + 1 ≤ _; rw [Q4.out]; decide)).mono ?_
  rintro e w8 ⟨rfl, h8, -⟩
  have H8 := hid h8
  clear h8
  go_wp2_with fail
  refine (sync_p H8.out HE.out (nm := nNew) Q6.out ((lk_pt _ _ _ _).trans (if_pos rfl)) (by show p.calls + 1 + 1 ≤ _; rw [Q4.out]; decide)).mono ?_
  rintro e w9 ⟨rfl, h9, -⟩
  have H9 := hid h9
  clear h9
  go_wp2_with fail
  refine (syncdir_p H9.out HE.out Q6.out (by show p.calls + 1 + 1 + 1 ≤ _; rw [Q4.out]; decide)).mono ?_
  rintro e w10 ⟨rfl, h10, -⟩
  have H10 := hid h10
  clear h10
  go_wp2_with fail
  refine (rename_p H10.out HE.out (nm := nNew) (k := G) Q6.out ((lk_pt _ _ _ _).trans (if_pos rfl)) nOld (by decide +kernel) (by show p.calls + 1 + 1 + 1 + 1 ≤ _; rw [Q4.out]; decide)).mono ?_
  rintro e w11 ⟨rfl, h11, -⟩
  have hpn : pt p.names nNew G = [(nNew, G), (nOld, F)] := by rw [Q1.out]; kernel_rfl
  have hq : ∃ p2 : PS, PW W w11 X p2 ∧ MoveI F G a b false p2 ∧ p2.calls = 8 ∧ p2.calm := ⟨_, h11, ⟨(congrArg (fun M => applyM M (renC nNew nOld G)) hpn).trans (moved_names F G), hpn, rfl, ⟨1, by
    simp only [PS.change, PS.syncDir, PS.put, PS.create]
    rw [upd_ne _ _ HFG.out, upd_ne _ _ HFG.out, upd_ne _ _ HFG.out, Q7.out]⟩, ⟨p.files + 1, by simp [PS.change, PS.syncDir, PS.put, PS.create]⟩, by show p.calls + 1 + 1 + 1 + 1 + 1 ≤ _; rw [Q4.out]; decide⟩, by show p.calls + 1 + 1 + 1 + 1 + 1 = _; rw [Q4.out], Q6.out⟩
  clear h11 hpn H10 H9 H8 H7 H6 HUS HNO
  obtain ⟨p2, h11, hI2, hcl2, hcm2⟩ := hq
  have H11 := hid h11; have HI2 := hid hI2; have HCL2 := hid hcl2; have HCM2 := hid hcm2
  clear h11 hI2 hcl2 hcm2 Q1 Q2 Q3 Q4 Q5 Q6 Q7 Q8
  have key : ∀ (W2 : World) (p3 : PS), PW W W2 X p3 → MoveI F G a b dir p3 → p3.calm → Hid (PW W W2 X p3) ∧ Hid (MoveI F G a b dir p3) ∧ Hid p3.calm ∧ Hid (p3.used = b.length) ∧ Hid (lk p3.names nOld = some G) ∧ Hid (namesL p3.names = [nOld]) := fun W2 p3 h1 h2 h3 => by
    obtain ⟨n2, f2⟩ := h2.fG
    refine ⟨hid h1, hid h2, hid h3, hid ?_, hid ?_, hid ?_⟩
    · unfold PS.used
      rw [h2.names]
      simp [sumF, f2]
    · rw [h2.names]
      kernel_rfl
    · rw [h2.names]
      exact namesL_of (List.Perm.refl _) (by simp)
  have HKEY := hid key
  clear key
  cases dir with
  | true =>
    go_wp2_with fail
    refine (syncdir_p H11.out HE.out HCM2.out (by rw [HCL2.out]; decide)).mono ?_
    rintro e w12 ⟨rfl, h12, -⟩
    obtain ⟨H12, HI, HCM, HUS, HLK, HNM⟩ := HKEY.out w12 _ h12 ⟨HI2.out.names, HI2.out.names, rfl, HI2.out.fF, HI2.out.fG, by show p2.calls + 1 ≤ _; rw [HCL2.out]; decide⟩ HCM2.out
    clear h12
    generalize p2.syncDir = p3 at *
    have HCA := hid HI.out.calls
    have hfg : (p3.fs G).by_ = b := by obtain ⟨n2, f2⟩ := HI.out.fG; rw [f2]
    have HRD := hid (read_p H12.out HE.out (nm := nOld) (k := G) HCM.out HLK.out 0 b.length (by rw [hfg]; omega))
    rw [show ((p3.fs G).by_.take (0 + b.length)).drop 0 = b by rw [List.drop_zero, Nat.zero_add, hfg, List.take_length]] at HRD
    clear hfg
    go_wp2_with fail
    refine HRD.out.mono ?_
    rintro e w13 ⟨hf13, v13, rfl, hv13⟩
    have H13 := hid (H12.out.fr hf13)
    obtain ⟨a13, c13, hve, -⟩ := own_len hv13
    have hb13 := hv13.bs2
    subst hve
    have HSB := hid (sameBytes_any _ _ _ _ _ _ w13 hb13 (HB.out.frame H13.out.f fun _ _ => id))
    simp only [decide_true] at HSB
    clear hf13 hv13 hb13
    go_wp2_with fail
    refine HSB.out.mono ?_
    rintro e w14 ⟨rfl, hq14⟩
    have H14 := hid (H13.out.fr (fr_drewN hq14))
    go_wp2_with fail
    refine (list_p H14.out (by have := HCA.out; omega)).mono ?_
    rintro e wlA ⟨hflA, alA, clA, rfl, hslA⟩
    have HLA := hid (H14.out.fr hflA)
    rw [HNM.out] at hslA ⊢
    have hfaA := (Fr.refl (fun _ => False) wlA).alloc (.cells #[.string nOld] 9)
    have hroA := Ss.row (l := [nOld]) (heap_alloc_new wlA (.cells #[.string nOld] 9)) (by simp [maxLen])
    have HMA := hid (HLA.out.fr hfaA)
    have HTA := hid (sameTexts_any _ _ _ _ _ _ _ (hslA.keep0 hfaA) hroA)
    rw [show decide ([nOld] = [nOld]) = true by decide +kernel] at HTA
    simp only [List.length_cons, List.length_nil, Nat.zero_add, Nat.reduceAdd] at HTA ⊢
    have hzA := hflA.trans' hfaA
    clear hflA hslA hfaA hroA
    go_wp2_with fail
    refine HTA.out.mono ?_
    rintro e wmA ⟨rfl, hqA⟩
    have hdA := fr_drewN hqA
    have HNA := hid (HMA.out.fr hdA)
    clear hqA
    go_wp2_with fail
    have HUD := hid (used_p HNA.out (by have := HCA.out; omega))
    rw [HUS.out] at HUD
    have hbb : ((b.length : Int) != b.length) = false := by simp
    refine HUD.out.mono ?_
    rintro e w18 ⟨rfl, hf18⟩
    have H18 := hid (HNA.out.fr hf18)
    clear hf18
    have hfa := (Fr.refl (fun _ => False) w18).alloc (.cells #[.int .i64 q] 3)
    have hrow := heap_alloc_new w18 (.cells #[.int .i64 q] 3)
    have HCR := hid (crash_q (H18.out.fr hfa) (by have := HCA.out; omega) _ _ [q] (Is.row (fz := (0, 0)) (t := 3) hrow (by simp [maxLen])) (fun k hk => .inl (by rw [hk]; exact Tk.no hrow (by decide) (by decide) (by decide))) (fun k => by
      rcases k with _ | k
      · exact ⟨b3, c3⟩
      · exact ⟨by show _ ≤ (0 : Int); decide, by show (0 : Int) ≤ _; decide⟩) (by simp))
    clear hfa hrow
    go_wp2_with fail
    refine HCR.out.mono ?_
    rintro e w19 ⟨rfl, L, hL, h19, -⟩
    have hcm4 : (p3.crash [q] L).calm := ⟨rfl, rfl⟩
    have hcl4 : (p3.crash [q] L).calls ≤ 10 := HI.out.calls
    have hbk := HI.out.back q hL
    have H19 := hid h19; have HCM4 := hid hcm4; have HCL4 := hid hcl4
    clear h19 hcm4 hL HCR HCA hcl4
    generalize p3.crash [q] L = p4 at *
    have HCA := HCL4
    have hbk2 : p4.names = [(nOld, G)] ∧ (p4.fs G).by_ = b := by
      rcases hbk with h | ⟨h, -⟩
      · exact h
      · cases h
    have K1 := hid hbk2.1; have K2 := hid hbk2.2
    clear hbk hbk2
    have HLN := hid (len_p H19.out HE.out (nm := nOld) (k := G) HCM4.out (by rw [K1.out]; kernel_rfl))
    rw [K2.out] at HLN
    go_wp2_with fail
    refine HLN.out.mono ?_
    rintro e w20 ⟨rfl, hf20⟩
    have H20 := hid (H19.out.fr hf20)
    clear hf20
    have HRD2 := hid (read_p H20.out HE.out (nm := nOld) (k := G) HCM4.out (by rw [K1.out]; kernel_rfl) 0 b.length (by rw [K2.out]; omega))
    rw [show ((p4.fs G).by_.take (0 + b.length)).drop 0 = b by rw [List.drop_zero, Nat.zero_add, K2.out, List.take_length]] at HRD2
    go_wp2_with fail
    refine HRD2.out.mono ?_
    rintro e w21 ⟨hf21, v21, rfl, hv21⟩
    have H21 := hid (H20.out.fr hf21)
    obtain ⟨a21, c21, hve, -⟩ := own_len hv21
    have HV21 := hid hv21.bs2
    subst hve
    clear hf21 hv21
    have HNM4 := hid (show namesL p4.names = [nOld] by rw [K1.out]; exact namesL_of (List.Perm.refl _) (by simp))
    go_wp2_with fail
    refine (list_p H21.out (by have := HCA.out; omega)).mono ?_
    rintro e wlB ⟨hflB, alB, clB, rfl, hslB⟩
    have HLB := hid (H21.out.fr hflB)
    rw [HNM4.out] at hslB ⊢
    have hfaB := (Fr.refl (fun _ => False) wlB).alloc (.cells #[.string nOld] 9)
    have hroB := Ss.row (l := [nOld]) (heap_alloc_new wlB (.cells #[.string nOld] 9)) (by simp [maxLen])
    have HMB := hid (HLB.out.fr hfaB)
    have HTB := hid (sameTexts_any _ _ _ _ _ _ _ (hslB.keep0 hfaB) hroB)
    rw [show decide ([nOld] = [nOld]) = true by decide +kernel] at HTB
    simp only [List.length_cons, List.length_nil, Nat.zero_add, Nat.reduceAdd] at HTB ⊢
    have hzB := hflB.trans' hfaB
    clear hflB hslB hfaB hroB
    go_wp2_with fail
    refine HTB.out.mono ?_
    rintro e wmB ⟨rfl, hqB⟩
    have hdB := fr_drewN hqB
    have HNB := hid (HMB.out.fr hdB)
    clear hqB
    go_wp2_with fail
    have HSB2 := hid (fun (W2 : World) (hf : Fr (fun _ => False) w21 W2) => sameBytes_any _ _ _ _ _ _ W2 (HV21.out.keep0 hf) (HB.out.frame (H21.out.f.trans' hf) fun _ _ => id))
    simp only [decide_true] at HSB2
    refine (HSB2.out _ (hzB.trans' hdB)).mono ?_
    rintro e w22 ⟨rfl, hq22⟩
    have HFin := hid (HNB.out.f.trans' (fr_drewN hq22))
    go_wp2_with fail
    go_ret
    exact ⟨rfl, HFin.out⟩
  | false =>
    obtain ⟨H12, HI, HCM, HUS, HLK, HNM⟩ := HKEY.out w11 _ H11.out HI2.out HCM2.out
    obtain ⟨p3, hp3⟩ : ∃ p3, p2 = p3 := ⟨_, rfl⟩
    subst hp3
    have HCA := hid HI.out.calls
    have hfg : (p2.fs G).by_ = b := by obtain ⟨n2, f2⟩ := HI.out.fG; rw [f2]
    have HRD := hid (read_p H12.out HE.out (nm := nOld) (k := G) HCM.out HLK.out 0 b.length (by rw [hfg]; omega))
    rw [show ((p2.fs G).by_.take (0 + b.length)).drop 0 = b by rw [List.drop_zero, Nat.zero_add, hfg, List.take_length]] at HRD
    clear hfg
    go_wp2_with fail
    refine HRD.out.mono ?_
    rintro e w13 ⟨hf13, v13, rfl, hv13⟩
    have H13 := hid (H12.out.fr hf13)
    obtain ⟨a13, c13, hve, -⟩ := own_len hv13
    have hb13 := hv13.bs2
    subst hve
    have HSB := hid (sameBytes_any _ _ _ _ _ _ w13 hb13 (HB.out.frame H13.out.f fun _ _ => id))
    simp only [decide_true] at HSB
    clear hf13 hv13 hb13
    go_wp2_with fail
    refine HSB.out.mono ?_
    rintro e w14 ⟨rfl, hq14⟩
    have H14 := hid (H13.out.fr (fr_drewN hq14))
    go_wp2_with fail
    refine (list_p H14.out (by have := HCA.out; omega)).mono ?_
    rintro e wlA ⟨hflA, alA, clA, rfl, hslA⟩
    have HLA := hid (H14.out.fr hflA)
    rw [HNM.out] at hslA ⊢
    have hfaA := (Fr.refl (fun _ => False) wlA).alloc (.cells #[.string nOld] 9)
    have hroA := Ss.row (l := [nOld]) (heap_alloc_new wlA (.cells #[.string nOld] 9)) (by simp [maxLen])
    have HMA := hid (HLA.out.fr hfaA)
    have HTA := hid (sameTexts_any _ _ _ _ _ _ _ (hslA.keep0 hfaA) hroA)
    rw [show decide ([nOld] = [nOld]) = true by decide +kernel] at HTA
    simp only [List.length_cons, List.length_nil, Nat.zero_add, Nat.reduceAdd] at HTA ⊢
    have hzA := hflA.trans' hfaA
    clear hflA hslA hfaA hroA
    go_wp2_with fail
    refine HTA.out.mono ?_
    rintro e wmA ⟨rfl, hqA⟩
    have hdA := fr_drewN hqA
    have HNA := hid (HMA.out.fr hdA)
    clear hqA
    go_wp2_with fail
    have HUD := hid (used_p HNA.out (by have := HCA.out; omega))
    rw [HUS.out] at HUD
    have hbb : ((b.length : Int) != b.length) = false := by simp
    refine HUD.out.mono ?_
    rintro e w18 ⟨rfl, hf18⟩
    have H18 := hid (HNA.out.fr hf18)
    clear hf18
    have hfa := (Fr.refl (fun _ => False) w18).alloc (.cells #[.int .i64 q] 3)
    have hrow := heap_alloc_new w18 (.cells #[.int .i64 q] 3)
    have HCR := hid (crash_q (H18.out.fr hfa) (by have := HCA.out; omega) _ _ [q] (Is.row (fz := (0, 0)) (t := 3) hrow (by simp [maxLen])) (fun k hk => .inl (by rw [hk]; exact Tk.no hrow (by decide) (by decide) (by decide))) (fun k => by
      rcases k with _ | k
      · exact ⟨b3, c3⟩
      · exact ⟨by show _ ≤ (0 : Int); decide, by show (0 : Int) ≤ _; decide⟩) (by simp))
    clear hfa hrow
    go_wp2_with fail
    refine HCR.out.mono ?_
    rintro e w19 ⟨rfl, L, hL, h19, -⟩
    have hcm4 : (p2.crash [q] L).calm := ⟨rfl, rfl⟩
    have hcl4 : (p2.crash [q] L).calls ≤ 10 := HI.out.calls
    have hbk := HI.out.back q hL
    have H19 := hid h19; have HCM4 := hid hcm4; have HCL4 := hid hcl4
    clear h19 hcm4 hL HCR HCA hcl4
    generalize p2.crash [q] L = p4 at *
    have HCA := HCL4
    rcases hbk with ⟨k1, k2⟩ | ⟨-, k1, k2⟩
    · have K1 := hid k1; have K2 := hid k2
      clear k1 k2
      have HLN := hid (len_p H19.out HE.out (nm := nOld) (k := G) HCM4.out (by rw [K1.out]; kernel_rfl))
      rw [K2.out] at HLN
      go_wp2_with fail
      refine HLN.out.mono ?_
      rintro e w20 ⟨rfl, hf20⟩
      have H20 := hid (H19.out.fr hf20)
      clear hf20
      have HRD2 := hid (read_p H20.out HE.out (nm := nOld) (k := G) HCM4.out (by rw [K1.out]; kernel_rfl) 0 b.length (by rw [K2.out]; omega))
      rw [show ((p4.fs G).by_.take (0 + b.length)).drop 0 = b by rw [List.drop_zero, Nat.zero_add, K2.out, List.take_length]] at HRD2
      go_wp2_with fail
      refine HRD2.out.mono ?_
      rintro e w21 ⟨hf21, v21, rfl, hv21⟩
      have H21 := hid (H20.out.fr hf21)
      obtain ⟨a21, c21, hve, -⟩ := own_len hv21
      have HV21 := hid hv21.bs2
      subst hve
      clear hf21 hv21
      have HNM4 := hid (show namesL p4.names = [nOld] by rw [K1.out]; exact namesL_of (List.Perm.refl _) (by simp))
      go_wp2_with fail
      refine (list_p H21.out (by have := HCA.out; omega)).mono ?_
      rintro e wlB ⟨hflB, alB, clB, rfl, hslB⟩
      have HLB := hid (H21.out.fr hflB)
      rw [HNM4.out] at hslB ⊢
      have hfaB := (Fr.refl (fun _ => False) wlB).alloc (.cells #[.string nOld] 9)
      have hroB := Ss.row (l := [nOld]) (heap_alloc_new wlB (.cells #[.string nOld] 9)) (by simp [maxLen])
      have HMB := hid (HLB.out.fr hfaB)
      have HTB := hid (sameTexts_any _ _ _ _ _ _ _ (hslB.keep0 hfaB) hroB)
      rw [show decide ([nOld] = [nOld]) = true by decide +kernel] at HTB
      simp only [List.length_cons, List.length_nil, Nat.zero_add, Nat.reduceAdd] at HTB ⊢
      have hzB := hflB.trans' hfaB
      clear hflB hslB hfaB hroB
      go_wp2_with fail
      refine HTB.out.mono ?_
      rintro e wmB ⟨rfl, hqB⟩
      have hdB := fr_drewN hqB
      have HNB := hid (HMB.out.fr hdB)
      clear hqB
      go_wp2_with fail
      have HSB2 := hid (fun (W2 : World) (hf : Fr (fun _ => False) w21 W2) => sameBytes_any _ _ _ _ _ _ W2 (HV21.out.keep0 hf) (HB.out.frame (H21.out.f.trans' hf) fun _ _ => id))
      simp only [decide_true] at HSB2
      refine (HSB2.out _ (hzB.trans' hdB)).mono ?_
      rintro e w22 ⟨rfl, hq22⟩
      have HFin := hid (HNB.out.f.trans' (fr_drewN hq22))
      go_wp2_with fail
      go_ret
      exact ⟨rfl, HFin.out⟩
    · have K1 := hid k1; have K2 := hid k2
      clear k1 k2
      have HLN := hid (len_p H19.out HE.out (nm := nOld) (k := F) HCM4.out (by rw [K1.out]; kernel_rfl))
      rw [K2.out] at HLN
      go_wp2_with fail
      refine HLN.out.mono ?_
      rintro e w20 ⟨rfl, hf20⟩
      have H20 := hid (H19.out.fr hf20)
      clear hf20
      have HRD2 := hid (read_p H20.out HE.out (nm := nOld) (k := F) HCM4.out (by rw [K1.out]; kernel_rfl) 0 a.length (by rw [K2.out]; omega))
      rw [show ((p4.fs F).by_.take (0 + a.length)).drop 0 = a by rw [List.drop_zero, Nat.zero_add, K2.out, List.take_length]] at HRD2
      go_wp2_with fail
      refine HRD2.out.mono ?_
      rintro e w21 ⟨hf21, v21, rfl, hv21⟩
      have H21 := hid (H20.out.fr hf21)
      obtain ⟨a21, c21, hve, -⟩ := own_len hv21
      have HV21 := hid hv21.bs2
      subst hve
      clear hf21 hv21
      have HNM4 := hid (show namesL p4.names = [nNew, nOld] by rw [K1.out]; exact namesL_of (List.Perm.refl _) (by simp; decide))
      go_wp2_with fail
      refine (list_p H21.out (by have := HCA.out; omega)).mono ?_
      rintro e wlB ⟨hflB, alB, clB, rfl, hslB⟩
      have HLB := hid (H21.out.fr hflB)
      rw [HNM4.out] at hslB ⊢
      have hfaB := (Fr.refl (fun _ => False) wlB).alloc (.cells #[.string nOld] 9)
      have hroB := Ss.row (l := [nOld]) (heap_alloc_new wlB (.cells #[.string nOld] 9)) (by simp [maxLen])
      have HMB := hid (HLB.out.fr hfaB)
      have HTB := hid (sameTexts_any _ _ _ _ _ _ _ (hslB.keep0 hfaB) hroB)
      rw [show decide ([nNew, nOld] = [nOld]) = false by decide +kernel] at HTB
      simp only [List.length_cons, List.length_nil, Nat.zero_add, Nat.reduceAdd] at HTB ⊢
      have hzB := hflB.trans' hfaB
      clear hflB hslB hfaB hroB
      go_wp2_with fail
      refine HTB.out.mono ?_
      rintro e wmB ⟨rfl, hqB⟩
      have hdB := fr_drewN hqB
      have HNB := hid (HMB.out.fr hdB)
      clear hqB
      go_wp2_with fail
      have HSB2 := hid (fun (W2 : World) (hf : Fr (fun _ => False) w21 W2) => sameBytes_any _ _ _ _ _ _ W2 (HV21.out.keep0 hf) (HA.out.frame (H21.out.f.trans' hf) fun _ _ => id))
      simp only [decide_true] at HSB2
      refine (HSB2.out _ (hzB.trans' hdB)).mono ?_
      rintro e w22 ⟨rfl, hq22⟩
      have H22 := hid (HNB.out.fr (fr_drewN hq22))
      go_wp2_with fail
      refine (list_p H22.out (by have := HCA.out; omega)).mono ?_
      rintro e wlC ⟨hflC, alC, clC, rfl, hslC⟩
      have HLC := hid (H22.out.fr hflC)
      rw [HNM4.out] at hslC ⊢
      have hfaC := (Fr.refl (fun _ => False) wlC).alloc (.cells #[.string nNew, .string nOld] 9)
      have hroC := Ss.row (l := [nNew, nOld]) (heap_alloc_new wlC (.cells #[.string nNew, .string nOld] 9)) (by simp [maxLen])
      have HMC := hid (HLC.out.fr hfaC)
      have HTC := hid (sameTexts_any _ _ _ _ _ _ _ (hslC.keep0 hfaC) hroC)
      rw [show decide ([nNew, nOld] = [nNew, nOld]) = true by decide +kernel] at HTC
      simp only [List.length_cons, List.length_nil, Nat.zero_add, Nat.reduceAdd] at HTC ⊢
      have hzC := hflC.trans' hfaC
      clear hflC hslC hfaC hroC
      go_wp2_with fail
      refine HTC.out.mono ?_
      rintro e wmC ⟨rfl, hqC⟩
      have hdC := fr_drewN hqC
      have HNC := hid (HMC.out.fr hdC)
      clear hqC
      go_wp2_with fail
      have HFin := hid HNC.out.f
      go_ret
      exact ⟨rfl, HFin.out⟩
end Go.Proofs.YtlhbgobjhddhlaaDoor
