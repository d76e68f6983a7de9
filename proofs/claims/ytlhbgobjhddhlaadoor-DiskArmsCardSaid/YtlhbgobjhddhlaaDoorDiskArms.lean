/- The statement DiskArms, walked. -/
import Derived.Test.YtlhbgobjhddhlaaDoorDiskR
namespace Go.Proofs.YtlhbgobjhddhlaaDoor
open Go.RowKit
variable {w0 w w' : World} {pa : Nat → Addr} {nm : ByteArray} {X : Nat}

/-- What stands at round i: d appends are done, the power goes at call T. -/
structure ArmI (F T : Nat) (p : PS) (i d : Nat) : Prop where
  room : p.room = 100
  names : p.names = pt [] ⟨#[97]⟩ F
  kept : p.kept = pt [] ⟨#[97]⟩ F
  ch : p.ch = []
  calls : p.calls = 2 + d
  len : (p.fs F).by_.length = d
  sy : (p.fs F).sy = 0
  st : (p.down = false ∧ d = i ∧ (T = 0 → p.armed = 0) ∧ (0 < T → i < T ∧ p.armed = T - i)) ∨ (p.down = true ∧ 0 < T ∧ T ≤ i ∧ d = T - 1)
theorem ArmI.le {F T i d : Nat} {p : PS} (h : ArmI F T p i d) : d ≤ i := by
  rcases h.st with ⟨-, e, -⟩ | ⟨-, -, e1, e2⟩ <;> omega
theorem ArmI.ok {F T i d : Nat} {p : PS} (h : ArmI F T p i d) (hb : p.begE = 0) (c : UInt8) : ArmI F T (p.beg.put F ⟨(p.fs F).id, (p.fs F).by_ ++ [c], (p.fs F).sy⟩) (i + 1) (d + 1) := by
  rcases h.st with ⟨h1, h2, h3, h4⟩ | ⟨h1, -⟩
  rotate_left
  · unfold PS.begE at hb
    rw [h1] at hb
    simp at hb
  have h5 : ¬ p.armed = 1 := fun e => by
    unfold PS.begE at hb
    rw [h1, e] at hb
    simp at hb
  have hbeg : p.beg = if 0 < p.armed then { p with armed := p.armed - 1, down := false } else p := by
    unfold PS.beg
    rw [h1, decide_eq_false h5]
    rfl
  rw [hbeg]
  by_cases ha : 0 < p.armed
  · rw [if_pos ha]
    refine ⟨h.room, h.names, h.kept, h.ch, by show p.calls + 1 = _; rw [h.calls]; omega, ?_, ?_, .inl ⟨rfl, by omega, fun e => ?_, fun e => ?_⟩⟩
    · show (upd p.fs F _ F).by_.length = _
      rw [upd_same]
      simp only [List.length_append, h.len, List.length_cons, List.length_nil]
    · show (upd p.fs F _ F).sy = _
      rw [upd_same]
      exact h.sy
    · have := h3 e; omega
    · have := h4 e
      refine ⟨by omega, ?_⟩
      show p.armed - 1 = _
      omega
  · rw [if_neg ha]
    refine ⟨h.room, h.names, h.kept, h.ch, by show p.calls + 1 = _; rw [h.calls]; omega, ?_, ?_, .inl ⟨h1, by omega, h3, fun e => ?_⟩⟩
    · show (upd p.fs F _ F).by_.length = _
      rw [upd_same]
      simp only [List.length_append, h.len, List.length_cons, List.length_nil]
    · show (upd p.fs F _ F).sy = _
      rw [upd_same]
      exact h.sy
    · have := h4 e; omega
theorem ArmI.no {F T i d : Nat} {p : PS} (h : ArmI F T p i d) (hb : p.begE = 110) : ArmI F T p.beg (i + 1) d ∧ p.beg.down = true := by
  rcases h.st with ⟨h1, h2, h3, h4⟩ | ⟨h1, h2, h3, h4⟩
  · have h5 : p.armed = 1 := by
      unfold PS.begE at hb
      rw [h1] at hb
      by_cases e : p.armed = 1
      · exact e
      · rw [if_neg e] at hb
        simp at hb
    have hbeg : p.beg = { p with armed := 0, down := true } := by
      unfold PS.beg
      rw [h1, if_neg (by simp), if_pos (by omega), h5]
      rfl
    have hT : 0 < T := Nat.pos_of_ne_zero fun e => by have := h3 e; omega
    have := h4 hT
    rw [hbeg]
    exact ⟨⟨h.room, h.names, h.kept, h.ch, h.calls, h.len, h.sy, .inr ⟨rfl, hT, by omega, by omega⟩⟩, rfl⟩
  · have hbeg : p.beg = p := by unfold PS.beg; rw [h1]; rfl
    rw [hbeg]
    exact ⟨⟨h.room, h.names, h.kept, h.ch, h.calls, h.len, h.sy, .inr ⟨h1, h2, by omega, h4⟩⟩, h1⟩
/-- Behind the crash. -/
theorem ArmI.back {F T i d : Nat} {p : PS} (h : ArmI F T p i d) {G : List Nat} (hG : p.order [0, (d : Int)] G) :
    (p.crash [0, (d : Int)] G).names = pt [] ⟨#[97]⟩ F ∧ ((p.crash [0, (d : Int)] G).fs F).by_.length = d ∧ (p.crash [0, (d : Int)] G).room = 100 := by
  have hk : p.kp (p.cp [0, (d : Int)]) = pt [] ⟨#[97]⟩ F := by rw [cp_ch _ _ h.ch, kp0]; exact h.kept
  obtain ⟨h1, h2, -⟩ := hG
  rw [hk] at h2
  have hg : G = [F] := order_one h1 fun k => by
    rw [h2 k]
    constructor
    · rintro ⟨n, hn⟩
      rw [pt_nil_mem] at hn
      simp only [Prod.mk.injEq] at hn
      exact hn.2
    · rintro rfl
      exact ⟨_, pt_nil_mem.2 rfl⟩
  subst hg
  refine ⟨hk, ?_, h.room⟩
  have hp : pick [0, (d : Int)] ([F].idxOf F + 1) ((p.fs F).by_.length - (p.fs F).sy) = d := by
    rw [h.len, h.sy]
    have : [F].idxOf F = 0 := by simp
    rw [this]
    unfold pick
    rw [if_neg (by simp)]
    show ((d : Int) % ((d - 0 : Nat) + 1 : Int)).toNat = d
    rw [Int.emod_eq_of_lt (by omega) (by omega)]
    omega
  simp only [PS.crash]
  rw [if_pos (by simp), hp]
  unfold cutF
  simp only [List.length_take, h.sy, h.len]
  omega
set_option maxRecDepth 100000 in
set_option maxHeartbeats 6400000 in
theorem diskArms_any (pa : Nat → Addr) (n0 n1 : Int) (b0 : -9223372036854775808 ≤ n0) (c0 : n0 ≤ 9223372036854775807) (b1 : -9223372036854775808 ≤ n1) (c1 : n1 ≤ 9223372036854775807) (W : World) (hE : Sent17 W pa) :
    Calls Tryd.prog 4 #[.int .i64 n0, .int .i64 n1] W fun e w' => e = .returned (.bool true) ∧ Fr (fun _ => False) W w' := by
  have HFI := hid (dfirst_any (w := W) hE.s6)
  obtain ⟨N, hN⟩ : ∃ N : Nat, n0 % 20 + 1 = (N : Int) := ⟨(n0 % 20 + 1).toNat, by have := Int.emod_nonneg n0 (show (20 : Int) ≠ 0 by omega); omega⟩
  obtain ⟨T, hT⟩ : ∃ T : Nat, n1 % 30 = (T : Int) := ⟨(n1 % 30).toNat, by have := Int.emod_nonneg n1 (show (30 : Int) ≠ 0 by omega); omega⟩
  have hNb : 1 ≤ N ∧ N ≤ 20 := by have := Int.emod_nonneg n0 (show (20 : Int) ≠ 0 by omega); have := Int.emod_lt_of_pos n0 (show (0 : Int) < 20 by omega); omega
  have hTb : T < 30 := by have := Int.emod_lt_of_pos n1 (show (0 : Int) < 30 by omega); omega
  have wr1 : IntKind.i64.wrap (n0 % 20 + 1) = (N : Int) := by rw [hN]; exact IntWalk.i64_in _ (by omega)
  have HNUM := hid fun w => number_any n0 20 w (by omega) (by omega) b0 c0
  have HNUM2 := hid fun w => number_any n1 30 w (by omega) (by omega) b1 c1
  rw [hT] at HNUM2
  have HE := hid hE
  clear hE hN hT b0 c0 b1 c1
  go_enter Tryd.func4, Tryd.ntmps4
  go_wp2_with fail
  refine HFI.out.mono ?_
  rintro e w1 ⟨rfl, hf1⟩
  have HF1 := hid hf1
  clear hf1
  go_wp2_with fail
  refine (HNUM.out w1).mono ?_
  rintro e w2 ⟨rfl, rfl⟩
  go_wp2_with fail
  refine (HNUM2.out w1).mono ?_
  rintro e w2 ⟨rfl, rfl⟩
  have HN := hid (new_p (HE.out.s6) HF1.out 100)
  go_wp2_with fail
  refine HN.out.mono ?_
  rintro e w3 ⟨-, h3⟩
  obtain ⟨X, rfl, h3, -⟩ := h3 (by decide +kernel)
  have H3 := hid h3
  clear h3 wr1
  go_wp2_with fail
  refine (create_p H3.out HE.out.s6 (nm := ⟨#[97]⟩) ⟨rfl, rfl⟩ (by decide +kernel) rfl ⟨Nat.zero_le _, Nat.zero_le _⟩).mono ?_
  rintro e w4 ⟨rfl, F, -, h4, -⟩
  have H4 := hid h4
  clear h4
  go_wp2_with fail
  refine (syncdir_p H4.out HE.out.s6 ⟨rfl, rfl⟩ (by simp [PS.create, PS.new])).mono ?_
  rintro e w5 ⟨rfl, h5, -⟩
  have H5 := hid h5
  clear h5
  go_wp2_with fail
  refine (arm_p H5.out (T : Int) (by omega)).mono ?_
  rintro e w6 ⟨rfl, h6, -⟩
  have hI0 : ArmI F T ((((PS.new 100).create ⟨#[97]⟩ F).syncDir).arm (T : Int)) 0 0 := by
    refine ⟨rfl, rfl, rfl, rfl, rfl, ?_, ?_, .inl ⟨rfl, rfl, fun e => ?_, fun e => ⟨e, ?_⟩⟩⟩
    · show (upd _ F _ F).by_.length = 0
      rw [upd_same]; rfl
    · show (upd _ F _ F).sy = 0
      rw [upd_same]
    · show ((T : Int)).toNat = 0
      omega
    · show ((T : Int)).toNat = T - 0
      omega
  have HI0 := hid hI0
  have H6 := hid h6
  clear h6 hI0
  generalize (((PS.new 100).create ⟨#[97]⟩ F).syncDir).arm (T : Int) = p0 at *
  go_wp2_with fail
  go_loopw [8, 9] (fun dv iv wr => ∃ (i d : Nat) (p : PS), i ≤ N ∧ dv = .int .i64 d ∧ iv = .int .i64 i ∧ Hid (ArmI F T p i d) ∧ Hid (PW W wr X p)) (fun _ iv _ => N - (intOf iv).toNat)
  case atStart => exact ⟨0, 0, p0, Nat.zero_le _, rfl, rfl, HI0, H6⟩
  case round =>
    obtain ⟨i, d, p, hi, rfl, rfl, HI, HP⟩ := hrel
    by_cases hlt : i < N
    · have hltI : (i : Int) < N := by omega
      have wk2 : IntKind.u8.wrap (i : Int) = (i : Int) := IntWalk.u8_in _ (by omega)
      have hkc : (UInt8.ofNat i).toNat = i := by rw [UInt8.toNat_ofNat']; omega
      have hrow := heap_alloc_new wr (.cells #[.int .u8 (i : Int)] 5)
      have hB0 : Bs (fun q => q = wr.heap.size) (wr.alloc (.cells #[.int .u8 (i : Int)] 5)) (.slice (some ⟨wr.heap.size, 0, none⟩) 1 1) [UInt8.ofNat i] := by
        have := Bs.row (w := wr.alloc (.cells #[.int .u8 (i : Int)] 5)) (g := wr.heap.size) (l := [UInt8.ofNat i]) (fz := (0, 0)) (by rw [hrow]; simp [bV, hkc]) (by simp [maxLen])
        simpa using this
      have hfa := (Fr.refl (fun _ => False) wr).alloc (.cells #[.int .u8 (i : Int)] 5)
      have hdi := HI.out.le
      have HAP := hid (append_g (HP.out.fr hfa) HE.out.s6 (nm := ⟨#[97]⟩) (k := F) (by rw [HI.out.names]; exact lk_one _ _) _ _ _ hB0 (fun q hq => by rw [hq]; exact ⟨_, _, hrow⟩) (by rw [used_one HI.out.names, HI.out.len, HI.out.room]; simp; omega) (by rw [HI.out.calls]; omega))
      have wi : IntKind.i64.wrap ((i : Int) + 1) = (i : Int) + 1 := IntWalk.i64_in _ (by omega)
      clear hkc hrow hB0 hfa
      rcases p.begE_no with hb | hb
      · have wd : IntKind.i64.wrap ((d : Int) + 1) = (d : Int) + 1 := IntWalk.i64_in _ (by omega)
        have hnx := HI.out.ok hb (UInt8.ofNat i)
        rw [hb] at HAP
        have z0 : errV pa 0 = .nilIface := rfl
        rw [z0] at HAP
        have HNX := hid hnx
        clear hnx z0 hb
        go_wp2_with fail
        refine HAP.out.mono ?_
        rintro e w7 ⟨rfl, -, -, h7⟩
        have H7 := hid (h7 (by first | rfl | trivial))
        clear h7
        generalize p.beg.put F ⟨(p.fs F).id, (p.fs F).by_ ++ [UInt8.ofNat i], (p.fs F).sy⟩ = p2 at *
        go_wp2_with fail
        go_roundw
        case rel => exact ⟨i + 1, d + 1, p2, by omega, by go_num, by go_num, HNX, H7⟩
        case measure => simp [intOf]; omega
      · obtain ⟨hn1, hn2⟩ := HI.out.no hb
        rw [hb] at HAP
        have z0 : errV pa 110 = .iface 148 (.pointer (some (pa 9))) := rfl
        have HIS := hid (fun (W2 : World) (hf : Fr (fun _ => False) W W2) => is_num W2 pa (HE.out.frame hf) 110 (by unfold ErrNo; omega) 110)
        rw [z0] at HAP HIS
        have hdc : decide (((110 : Nat) : Int) = 110) = true := by decide
        rw [hdc] at HIS
        have HN1 := hid hn1; have HN2 := hid hn2
        clear hn1 hn2 z0 hdc hb
        go_wp2_with fail
        refine HAP.out.mono ?_
        rintro e w7 ⟨rfl, -, h7, -⟩
        have H7 := hid (h7 (by decide))
        clear h7
        generalize p.beg = p2 at *
        go_wp2_with fail
        refine (HIS.out w7 H7.out.f).mono ?_
        rintro e w8 ⟨rfl, hf8⟩
        have H8 := hid (H7.out.fr hf8)
        clear hf8
        have HDN := hid (down_p H8.out)
        rw [HN2.out] at HDN
        go_wp2_with fail
        refine HDN.out.mono ?_
        rintro e w9 ⟨rfl, rfl⟩
        go_wp2_with fail
        go_roundw
        case rel => exact ⟨i + 1, d, p2, by omega, rfl, by go_num, HN1, H8⟩
        case measure => simp [intOf]; omega
    · have hltI : ¬ (i : Int) < N := by omega
      obtain rfl : N = i := by omega
      have hdi := HI.out.le
      have wd2 : IntKind.i64.wrap ((2 : Int) + d) = (2 : Int) + d := IntWalk.i64_in _ (by omega)
      have hdcs : ((d : Int) != d) = false := by simp
      have hcal : (((2 : Int) + d) != ((2 : Int) + d)) = false := by simp
      have HCA := hid (fun (W2 : World) (h : PW W W2 X p) => calls_p h)
      rw [HI.out.calls] at HCA
      have e2 : ((2 + d : Nat) : Int) = 2 + (d : Int) := by omega
      rw [e2] at HCA
      clear e2
      have HIS := hid (fun (W2 : World) (hf : Fr (fun _ => False) W W2) (m : Nat) (hm : ErrNo m) => is_num W2 pa (HE.out.frame hf) m hm 110)
      rcases HI.out.st with ⟨hs1, hs2, hs3, hs4⟩ | ⟨hs1, hs2, hs3, hs4⟩
      · have HSD := hid hs1
        by_cases hT0 : T = 0
        · have HSA := hid (hs3 hT0)
          have hTi : ¬ (0 : Int) < T := by omega
          obtain rfl : d = N := by omega
          clear hs1 hs2 hs3 hs4 hT0
          have HDN := hid (fun (W2 : World) (h : PW W W2 X p) => down_p h)
          rw [HSD.out] at HDN
          go_wp2_with fail
          refine (HDN.out _ HP.out).mono ?_
          rintro e w7 ⟨rfl, rfl⟩
          go_wp2_with fail
          refine (HCA.out _ HP.out).mono ?_
          rintro e w7 ⟨rfl, rfl⟩
          have HRD := hid (read_u HP.out HE.out.s6 (nm := ⟨#[97]⟩) (k := F) HSD.out (by rw [HI.out.names]; exact lk_one _ _) 0 0 (Nat.zero_le _))
          have z0 : errV pa 0 = .nilIface := rfl
          have HI0' := hid (fun (W2 : World) (hf : Fr (fun _ => False) W W2) => HIS.out W2 hf 0 (by unfold ErrNo; omega))
          rw [z0] at HI0'
          have hdc : decide (((0 : Nat) : Int) = 110) = false := by decide
          rw [hdc] at HI0'
          clear z0 hdc
          go_wp2_with fail
          refine HRD.out.mono ?_
          rintro e w8 ⟨hf8, v8, RD⟩
          obtain ⟨rfl, -⟩ := RD
          have H8 := hid (HP.out.fr hf8)
          clear hf8
          go_wp2_with fail
          refine (HDN.out _ H8.out).mono ?_
          rintro e w9 ⟨rfl, rfl⟩
          go_wp2_with fail
          refine (HI0'.out _ H8.out.f).mono ?_
          rintro e w9 ⟨rfl, hf9⟩
          have H9 := hid (H8.out.fr hf9)
          clear hf9
          have hfa := (Fr.refl (fun _ => False) w9).alloc (.cells #[.int .i64 0, .int .i64 d] 3)
          have hrow := heap_alloc_new w9 (.cells #[.int .i64 0, .int .i64 d] 3)
          have HCR := hid (crash_p (H9.out.fr hfa) (by rw [HI.out.calls]; omega) _ _ [0, (d : Int)] (Is.row (fz := (0, 0)) (t := 3) hrow (by simp [maxLen])) (fun k hk => by rw [hk]; exact Tk.no hrow (by decide) (by decide) (by decide)) (fun k => by
            rcases k with _ | _ | k
            · show _ ≤ (0 : Int) ∧ (0 : Int) ≤ _; omega
            · show _ ≤ (d : Int) ∧ (d : Int) ≤ _; omega
            · show _ ≤ (0 : Int) ∧ (0 : Int) ≤ _; omega) (by simp))
          clear hfa hrow
          go_wp2_with fail
          refine HCR.out.mono ?_
          rintro e w10 ⟨rfl, G, hG, h10, -⟩
          obtain ⟨k1, k2, k3⟩ := HI.out.back hG
          have hcalm : (p.crash [0, (d : Int)] G).calm := ⟨rfl, rfl⟩
          have hcl : (p.crash [0, (d : Int)] G).calls = 2 + d := HI.out.calls
          have hdn : (p.crash [0, (d : Int)] G).down = false := rfl
          have H10 := hid h10; have K1 := hid k1; have K2 := hid k2; have K3 := hid k3; have HCM := hid hcalm; have HCL := hid hcl; have HDW := hid hdn
          clear h10 k1 k2 k3 hcalm hG hcl hdn HCR
          generalize p.crash [0, (d : Int)] G = p3 at *
          have HLN := hid (len_p H10.out HE.out.s6 (nm := ⟨#[97]⟩) (k := F) HCM.out (by rw [K1.out]; exact lk_one _ _))
          rw [K2.out] at HLN
          go_wp2_with fail
          refine HLN.out.mono ?_
          rintro e w11 ⟨rfl, hf11⟩
          have H11 := hid (H10.out.fr hf11)
          clear hf11
          have HD3 := hid (down_p H11.out)
          rw [HDW.out] at HD3
          have hdd : ((d : Int) == d) = true := by simp
          go_wp2_with fail
          refine HD3.out.mono ?_
          rintro e w12 ⟨rfl, rfl⟩
          go_wp2_with fail
          refine (append_p H11.out HE.out.s6 (nm := ⟨#[97]⟩) (k := F) HCM.out (by rw [K1.out]; exact lk_one _ _) (.slice none 0 0) [] (fun _ => False) (Bs.nil' _ _) (fun _ h => h.elim) (by rw [used_one K1.out, K2.out, K3.out]; simp; omega) (by rw [HCL.out]; omega)).mono ?_
          rintro e w13 ⟨rfl, h13, -⟩
          have HFin := hid h13.f
          clear h13
          go_wp2_with fail
          go_ret
          exact ⟨rfl, HFin.out⟩
        · obtain ⟨hq1, hq2⟩ := hs4 (Nat.pos_of_ne_zero hT0)
          have hTi : (0 : Int) < T := by omega
          have hTN : ¬ (T : Int) ≤ N := by omega
          have wT : IntKind.i64.wrap ((T : Int) - 1) = (T : Int) - 1 := IntWalk.i64_in _ (by omega)
          have hmin : min (N : Int) ((T : Int) - 1) = (d : Int) := by omega
          have HQ := hid hq1
          clear hs1 hs2 hs3 hs4 hq1 hq2
          have HDN := hid (fun (W2 : World) (h : PW W W2 X p) => down_p h)
          rw [HSD.out] at HDN
          go_wp2_with fail
          refine (HDN.out _ HP.out).mono ?_
          rintro e w7 ⟨rfl, rfl⟩
          go_wp2_with fail
          refine (HCA.out _ HP.out).mono ?_
          rintro e w7 ⟨rfl, rfl⟩
          have HRD := hid (read_u HP.out HE.out.s6 (nm := ⟨#[97]⟩) (k := F) HSD.out (by rw [HI.out.names]; exact lk_one _ _) 0 0 (Nat.zero_le _))
          have z0 : errV pa 0 = .nilIface := rfl
          have HI0' := hid (fun (W2 : World) (hf : Fr (fun _ => False) W W2) => HIS.out W2 hf 0 (by unfold ErrNo; omega))
          rw [z0] at HI0'
          have hdc : decide (((0 : Nat) : Int) = 110) = false := by decide
          rw [hdc] at HI0'
          clear z0 hdc
          go_wp2_with fail
          refine HRD.out.mono ?_
          rintro e w8 ⟨hf8, v8, RD⟩
          obtain ⟨rfl, -⟩ := RD
          have H8 := hid (HP.out.fr hf8)
          clear hf8
          go_wp2_with fail
          refine (HDN.out _ H8.out).mono ?_
          rintro e w9 ⟨rfl, rfl⟩
          go_wp2_with fail
          refine (HI0'.out _ H8.out.f).mono ?_
          rintro e w9 ⟨rfl, hf9⟩
          have H9 := hid (H8.out.fr hf9)
          clear hf9
          have hfa := (Fr.refl (fun _ => False) w9).alloc (.cells #[.int .i64 0, .int .i64 d] 3)
          have hrow := heap_alloc_new w9 (.cells #[.int .i64 0, .int .i64 d] 3)
          have HCR := hid (crash_p (H9.out.fr hfa) (by rw [HI.out.calls]; omega) _ _ [0, (d : Int)] (Is.row (fz := (0, 0)) (t := 3) hrow (by simp [maxLen])) (fun k hk => by rw [hk]; exact Tk.no hrow (by decide) (by decide) (by decide)) (fun k => by
            rcases k with _ | _ | k
            · show _ ≤ (0 : Int) ∧ (0 : Int) ≤ _; omega
            · show _ ≤ (d : Int) ∧ (d : Int) ≤ _; omega
            · show _ ≤ (0 : Int) ∧ (0 : Int) ≤ _; omega) (by simp))
          clear hfa hrow
          go_wp2_with fail
          refine HCR.out.mono ?_
          rintro e w10 ⟨rfl, G, hG, h10, -⟩
          obtain ⟨k1, k2, k3⟩ := HI.out.back hG
          have hcalm : (p.crash [0, (d : Int)] G).calm := ⟨rfl, rfl⟩
          have hcl : (p.crash [0, (d : Int)] G).calls = 2 + d := HI.out.calls
          have hdn : (p.crash [0, (d : Int)] G).down = false := rfl
          have H10 := hid h10; have K1 := hid k1; have K2 := hid k2; have K3 := hid k3; have HCM := hid hcalm; have HCL := hid hcl; have HDW := hid hdn
          clear h10 k1 k2 k3 hcalm hG hcl hdn HCR
          generalize p.crash [0, (d : Int)] G = p3 at *
          have HLN := hid (len_p H10.out HE.out.s6 (nm := ⟨#[97]⟩) (k := F) HCM.out (by rw [K1.out]; exact lk_one _ _))
          rw [K2.out] at HLN
          go_wp2_with fail
          refine HLN.out.mono ?_
          rintro e w11 ⟨rfl, hf11⟩
          have H11 := hid (H10.out.fr hf11)
          clear hf11
          have HD3 := hid (down_p H11.out)
          rw [HDW.out] at HD3
          have hdd : ((d : Int) == d) = true := by simp
          go_wp2_with fail
          refine HD3.out.mono ?_
          rintro e w12 ⟨rfl, rfl⟩
          go_wp2_with fail
          refine (append_p H11.out HE.out.s6 (nm := ⟨#[97]⟩) (k := F) HCM.out (by rw [K1.out]; exact lk_one _ _) (.slice none 0 0) [] (fun _ => False) (Bs.nil' _ _) (fun _ h => h.elim) (by rw [used_one K1.out, K2.out, K3.out]; simp; omega) (by rw [HCL.out]; omega)).mono ?_
          rintro e w13 ⟨rfl, h13, -⟩
          have HFin := hid h13.f
          clear h13
          go_wp2_with fail
          go_ret
          exact ⟨rfl, HFin.out⟩
      · have HSD := hid hs1
        have hTi : (0 : Int) < T := by omega
        have hTN : (T : Int) ≤ N := by omega
        have wT : IntKind.i64.wrap ((T : Int) - 1) = (T : Int) - 1 := IntWalk.i64_in _ (by omega)
        have hmin : min (N : Int) ((T : Int) - 1) = (d : Int) := by omega
        clear hs1 hs2 hs3 hs4
        have HDN := hid (fun (W2 : World) (h : PW W W2 X p) => down_p h)
        rw [HSD.out] at HDN
        go_wp2_with fail
        refine (HDN.out _ HP.out).mono ?_
        rintro e w7 ⟨rfl, rfl⟩
        go_wp2_with fail
        refine (HCA.out _ HP.out).mono ?_
        rintro e w7 ⟨rfl, rfl⟩
        have HRD := hid (read_d HP.out HE.out.s6 HSD.out ⟨#[97]⟩ (by decide) 0 0 (by decide) (by decide))
        have z0 : errV pa 110 = .iface 148 (.pointer (some (pa 9))) := rfl
        have HI0' := hid (fun (W2 : World) (hf : Fr (fun _ => False) W W2) => HIS.out W2 hf 110 (by unfold ErrNo; omega))
        rw [z0] at HI0' HRD
        have hdc : decide (((110 : Nat) : Int) = 110) = true := by decide
        rw [hdc] at HI0'
        clear z0 hdc
        go_wp2_with fail
        refine HRD.out.mono ?_
        rintro e w8 ⟨hf8, v8, RD⟩
        subst RD
        have H8 := hid (HP.out.fr hf8)
        clear hf8
        go_wp2_with fail
        refine (HDN.out _ H8.out).mono ?_
        rintro e w9 ⟨rfl, rfl⟩
        go_wp2_with fail
        refine (HI0'.out _ H8.out.f).mono ?_
        rintro e w9 ⟨rfl, hf9⟩
        have H9 := hid (H8.out.fr hf9)
        clear hf9
        have hfa := (Fr.refl (fun _ => False) w9).alloc (.cells #[.int .i64 0, .int .i64 d] 3)
        have hrow := heap_alloc_new w9 (.cells #[.int .i64 0, .int .i64 d] 3)
        have HCR := hid (crash_p (H9.out.fr hfa) (by rw [HI.out.calls]; omega) _ _ [0, (d : Int)] (Is.row (fz := (0, 0)) (t := 3) hrow (by simp [maxLen])) (fun k hk => by rw [hk]; exact Tk.no hrow (by decide) (by decide) (by decide)) (fun k => by
          rcases k with _ | _ | k
          · show _ ≤ (0 : Int) ∧ (0 : Int) ≤ _; omega
          · show _ ≤ (d : Int) ∧ (d : Int) ≤ _; omega
          · show _ ≤ (0 : Int) ∧ (0 : Int) ≤ _; omega) (by simp))
        clear hfa hrow
        go_wp2_with fail
        refine HCR.out.mono ?_
        rintro e w10 ⟨rfl, G, hG, h10, -⟩
        obtain ⟨k1, k2, k3⟩ := HI.out.back hG
        have hcalm : (p.crash [0, (d : Int)] G).calm := ⟨rfl, rfl⟩
        have hcl : (p.crash [0, (d : Int)] G).calls = 2 + d := HI.out.calls
        have hdn : (p.crash [0, (d : Int)] G).down = false := rfl
        have H10 := hid h10; have K1 := hid k1; have K2 := hid k2; have K3 := hid k3; have HCM := hid hcalm; have HCL := hid hcl; have HDW := hid hdn
        clear h10 k1 k2 k3 hcalm hG hcl hdn HCR
        generalize p.crash [0, (d : Int)] G = p3 at *
        have HLN := hid (len_p H10.out HE.out.s6 (nm := ⟨#[97]⟩) (k := F) HCM.out (by rw [K1.out]; exact lk_one _ _))
        rw [K2.out] at HLN
        go_wp2_with fail
        refine HLN.out.mono ?_
        rintro e w11 ⟨rfl, hf11⟩
        have H11 := hid (H10.out.fr hf11)
        clear hf11
        have HD3 := hid (down_p H11.out)
        rw [HDW.out] at HD3
        have hdd : ((d : Int) == d) = true := by simp
        go_wp2_with fail
        refine HD3.out.mono ?_
        rintro e w12 ⟨rfl, rfl⟩
        go_wp2_with fail
        refine (append_p H11.out HE.out.s6 (nm := ⟨#[97]⟩) (k := F) HCM.out (by rw [K1.out]; exact lk_one _ _) (.slice none 0 0) [] (fun _ => False) (Bs.nil' _ _) (fun _ h => h.elim) (by rw [used_one K1.out, K2.out, K3.out]; simp; omega) (by rw [HCL.out]; omega)).mono ?_
        rintro e w13 ⟨rfl, h13, -⟩
        have HFin := hid h13.f
        clear h13
        go_wp2_with fail
        go_ret
        exact ⟨rfl, HFin.out⟩
end Go.Proofs.YtlhbgobjhddhlaaDoor
