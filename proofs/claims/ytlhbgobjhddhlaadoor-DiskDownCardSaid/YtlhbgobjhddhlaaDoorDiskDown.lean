/- The statement DiskDown, walked. -/
import Derived.Test.YtlhbgobjhddhlaaDoorDiskT
namespace Go.Proofs.YtlhbgobjhddhlaaDoor
open Go.RowKit
variable {w0 w w' : World} {pa : Nat → Addr} {nm : ByteArray} {X : Nat}

/-- What stands while the power is gone. -/
structure DownI (F : Nat) (b : List UInt8) (p : PS) : Prop where
  down : p.down = true
  calls : p.calls = 4
  files : p.files = 1
  kept : p.kept = pt [] ⟨#[97]⟩ F
  ch : p.ch = []
  fF : p.fs F = ⟨1, b, b.length⟩
theorem DownI.back {F : Nat} {b : List UInt8} {p : PS} (h : DownI F b p) {L : List Nat} (hL : p.order [] L) :
    (p.crash [] L).names = pt [] ⟨#[97]⟩ F ∧ ((p.crash [] L).fs F).by_ = b := by
  have hk : p.kp (p.cp []) = pt [] ⟨#[97]⟩ F := by rw [cp_nil, kp0]; exact h.kept
  refine ⟨hk, ?_⟩
  have hm : F ∈ L := (hL.2.1 F).2 ⟨⟨#[97]⟩, by rw [hk]; simp [pt]⟩
  simp only [PS.crash]
  rw [if_pos hm, h.fF, pick_nil]
  unfold cutF
  simp
set_option maxRecDepth 100000 in
set_option maxHeartbeats 6400000 in
theorem diskDown_any (pa : Nat → Addr) (vl vb : Value) (l : List Int) (b : List UInt8) (W : World) (hl : Is (fun _ => True) W vl l) (hr : ∀ k, -9223372036854775808 ≤ l.getD k 0 ∧ l.getD k 0 ≤ 9223372036854775807) (hb : Bs (fun _ => True) W vb b) (hE : Sent17 W pa) :
    Calls Tryd.prog 7 #[vl, vb] W fun e w' => e = .returned (.bool true) ∧ Fr (fun _ => False) W w' := by
  have HFI := hid (dfirst_any (w := W) hE.s6)
  have HB := hid (hb.mono (E := fun k => k < W.heap.size) fun _ h _ => h)
  obtain ⟨a, c, rfl, h1, h2, hc⟩ := id hl
  obtain ⟨ab, cb, rfl, hb1, -⟩ := id hb
  have HC := hid hc; have HRR := hid hr; have HE := hid hE
  clear hl hb hr hE hc
  go_enter Tryd.func7, Tryd.ntmps7
  go_wp2_with fail
  refine HFI.out.mono ?_
  rintro e w1 ⟨rfl, hf1⟩
  have HF1 := hid hf1
  clear hf1
  by_cases l1 : 12 < l.length
  · have l1I : (12 : Int) < l.length := by omega
    go_wp2_with fail
    go_ret
    exact ⟨rfl, HF1.out⟩
  have l1I : ¬ (12 : Int) < l.length := by omega
  by_cases l2 : 50 < b.length
  · have l2I : (50 : Int) < b.length := by omega
    go_wp2_with fail
    go_ret
    exact ⟨rfl, HF1.out⟩
  have l2I : ¬ (50 : Int) < b.length := by omega
  have HN := hid (new_p (HE.out.s6) HF1.out 500)
  go_wp2_with fail
  refine HN.out.mono ?_
  rintro e w3 ⟨-, h3⟩
  obtain ⟨X, rfl, h3, -⟩ := h3 (by decide +kernel)
  have H3 := hid h3
  clear h3 l1I l2I
  go_wp2_with fail
  refine (create_p H3.out HE.out.s6 (nm := ⟨#[97]⟩) ⟨rfl, rfl⟩ (by decide +kernel) rfl ⟨Nat.zero_le _, Nat.zero_le _⟩).mono ?_
  rintro e w4 ⟨rfl, F, -, h4, -⟩
  have H4 := hid h4
  clear h4
  go_wp2_with fail
  refine (append_q H4.out HE.out.s6 (nm := ⟨#[97]⟩) ⟨rfl, rfl⟩ (lk_one _ _) _ b _ (HB.out.frame H4.out.f fun _ _ => id) (fun k hk => .inr hk) (by simp [PS.used, PS.create, PS.new, pt, dl, sumF]; omega) (by simp [PS.create, PS.new])).mono ?_
  rintro e w5 ⟨rfl, h5, -⟩
  have H5 := hid h5
  clear h5
  go_wp2_with fail
  refine (sync_p H5.out HE.out.s6 (nm := ⟨#[97]⟩) ⟨rfl, rfl⟩ (lk_one _ _) (by simp [PS.put, PS.create, PS.new])).mono ?_
  rintro e w6 ⟨rfl, h6, -⟩
  have H6 := hid h6
  clear h6
  go_wp2_with fail
  refine (syncdir_p H6.out HE.out.s6 ⟨rfl, rfl⟩ (by simp [PS.put, PS.create, PS.new])).mono ?_
  rintro e w7 ⟨rfl, h7, -⟩
  have H7 := hid h7
  clear h7
  go_wp2_with fail
  refine (arm_p H7.out 1 (by decide)).mono ?_
  rintro e w8 ⟨rfl, h8, -⟩
  have hq : ∃ p : PS, PW W w8 X p ∧ p.down = false ∧ p.armed = 1 ∧ p.calls = 4 ∧ p.files = 1 ∧ p.kept = pt [] ⟨#[97]⟩ F ∧ p.ch = [] ∧ p.fs F = ⟨1, b, b.length⟩ := ⟨_, h8, rfl, rfl, rfl, rfl, rfl, rfl, by simp [PS.arm, PS.put, PS.syncDir, PS.create, PS.new]⟩
  clear h8 H7 H6 H5 H4 H3
  obtain ⟨p0, h8, q1, q2, q3, q4, q5, q6, q7⟩ := hq
  have hbE : p0.begE = 110 := by unfold PS.begE; rw [q1, q2]; rfl
  have hI : DownI F b p0.beg := by
    have : p0.beg = { p0 with armed := 0, down := true } := by unfold PS.beg; rw [q1, q2]; rfl
    rw [this]
    exact ⟨rfl, q3, q4, q5, q6, q7⟩
  have hsd := syncdir_g h8 HE.out.s6 (by rw [q3]; decide)
  rw [hbE] at hsd
  have z1 : errV pa 110 = .iface 148 (.pointer (some (pa 9))) := rfl
  have HIS := hid (fun (W2 : World) (hf : Fr (fun _ => False) W W2) => is_num W2 pa (HE.out.frame hf) 110 (by unfold ErrNo; omega) 110)
  have hdc : decide (((110 : Nat) : Int) = 110) = true := by decide
  rw [z1, hdc] at HIS
  rw [z1] at hsd
  have HSD := hid hsd; have HI := hid hI; have Z1 := hid z1
  clear h8 q1 q2 q3 q4 q5 q6 q7 hbE hI hsd z1 hdc
  go_wp2_with fail
  refine HSD.out.mono ?_
  rintro e w9 ⟨rfl, -, h9, -⟩
  have H9 := hid (h9 (by decide))
  clear h9
  generalize p0.beg = p at *
  have hxb : (⟨#[98]⟩ : ByteArray).size ≤ 1048576 := by decide
  have HDN := hid (fun (W2 : World) (h : PW W W2 X p) => down_p h)
  rw [HI.out.down] at HDN
  have HCA := hid (fun (W2 : World) (h : PW W W2 X p) => calls_p h)
  rw [HI.out.calls] at HCA
  clear hxb
  go_wp2_with fail
  refine (HIS.out w9 H9.out.f).mono ?_
  rintro e w10 ⟨rfl, hf10⟩
  have H10 := hid (H9.out.fr hf10)
  clear hf10
  go_wp2_with fail
  refine (HDN.out w10 H10.out).mono ?_
  rintro e w11 ⟨rfl, rfl⟩
  go_wp2_with fail
  refine (HCA.out w10 H10.out).mono ?_
  rintro e w11 ⟨rfl, rfl⟩
  go_wp2_with fail
  go_loopw [9] (fun iv wr => ∃ i : Nat, i ≤ l.length ∧ iv = .int .i64 i ∧ Hid (PW W wr X p)) (fun iv _ => l.length - (intOf iv).toNat)
  case atStart => exact ⟨0, Nat.zero_le _, rfl, H10⟩
  case round =>
    obtain ⟨i, hi, rfl, HP⟩ := hrel
    by_cases hlt : i < l.length
    · have hltI : (i : Int) < l.length := by omega
      obtain ⟨x, o, y, rfl, -, hcell, rfl⟩ := HC.out i hlt
      have hcell' := HP.out.f.cell hcell not_false
      obtain ⟨z, hz⟩ : ∃ z, l.getD i 0 = z := ⟨_, rfl⟩
      have hzr := HRR.out i
      rw [hz] at hcell' hzr
      obtain ⟨m, hm⟩ : ∃ m : Nat, z % 9 = (m : Int) := ⟨(z % 9).toNat, by have := Int.emod_nonneg z (show (9 : Int) ≠ 0 by omega); omega⟩
      have hm9 : m < 9 := by have := Int.emod_lt_of_pos z (show (0 : Int) < 9 by omega); omega
      have HNZ := hid (fun w => number_any z 9 w (by omega) (by omega) hzr.1 hzr.2)
      rw [hm] at HNZ
      have wi : IntKind.i64.wrap ((i : Int) + 1) = (i : Int) + 1 := IntWalk.i64_in _ (by omega)
      clear hcell hz hzr hm
      obtain rfl | rfl | rfl | rfl | rfl | rfl | rfl | rfl | rfl : m = 0 ∨ m = 1 ∨ m = 2 ∨ m = 3 ∨ m = 4 ∨ m = 5 ∨ m = 6 ∨ m = 7 ∨ m = 8 := by omega
      all_goals
        clear hm9
        go_wp2_with fail
        refine (HNZ.out _).mono ?_
        rintro e w12 ⟨rfl, rfl⟩
      · have hc := create_d HP.out HE.out.s6 HI.out.down ⟨#[98]⟩ (by decide) ⟨by rw [HI.out.calls]; decide, by rw [HI.out.files]; decide⟩
        rw [Z1.out] at hc
        go_wp2_with fail
        refine hc.mono ?_
        rintro e w13 ⟨rfl, h13, -⟩
        have H13 := hid h13
        clear h13 hc
        go_wp2_with fail
        refine (HIS.out _ H13.out.f).mono ?_
        rintro e w14 ⟨rfl, hf14⟩
        have H14 := hid (H13.out.fr hf14)
        clear hf14
        go_wp2_with fail
        refine (HCA.out _ H14.out).mono ?_
        rintro e w15 ⟨rfl, rfl⟩
        go_wp2_with fail
        go_roundw
        case rel => exact ⟨i + 1, by omega, by go_num, H14⟩
        case measure => simp [intOf]; omega
      · have hc := append_d HP.out HE.out.s6 HI.out.down ⟨#[97]⟩ (by decide) _ b _ (HB.out.frame HP.out.f fun _ _ => id) (fun k hk => .inr hk) (by omega) (by rw [HI.out.calls]; decide)
        rw [Z1.out] at hc
        go_wp2_with fail
        refine hc.mono ?_
        rintro e w13 ⟨rfl, h13, -⟩
        have H13 := hid h13
        clear h13 hc
        go_wp2_with fail
        refine (HIS.out _ H13.out.f).mono ?_
        rintro e w14 ⟨rfl, hf14⟩
        have H14 := hid (H13.out.fr hf14)
        clear hf14
        go_wp2_with fail
        refine (HCA.out _ H14.out).mono ?_
        rintro e w15 ⟨rfl, rfl⟩
        go_wp2_with fail
        go_roundw
        case rel => exact ⟨i + 1, by omega, by go_num, H14⟩
        case measure => simp [intOf]; omega
      · have hc := cut_d HP.out HE.out.s6 HI.out.down ⟨#[97]⟩ (by decide) 0 (by decide) (by rw [HI.out.calls]; decide)
        rw [Z1.out] at hc
        go_wp2_with fail
        refine hc.mono ?_
        rintro e w13 ⟨rfl, h13, -⟩
        have H13 := hid h13
        clear h13 hc
        go_wp2_with fail
        refine (HIS.out _ H13.out.f).mono ?_
        rintro e w14 ⟨rfl, hf14⟩
        have H14 := hid (H13.out.fr hf14)
        clear hf14
        go_wp2_with fail
        refine (HCA.out _ H14.out).mono ?_
        rintro e w15 ⟨rfl, rfl⟩
        go_wp2_with fail
        go_roundw
        case rel => exact ⟨i + 1, by omega, by go_num, H14⟩
        case measure => simp [intOf]; omega
      · have hc := sync_d HP.out HE.out.s6 HI.out.down ⟨#[97]⟩ (by decide) (by rw [HI.out.calls]; decide)
        rw [Z1.out] at hc
        go_wp2_with fail
        refine hc.mono ?_
        rintro e w13 ⟨rfl, h13, -⟩
        have H13 := hid h13
        clear h13 hc
        go_wp2_with fail
        refine (HIS.out _ H13.out.f).mono ?_
        rintro e w14 ⟨rfl, hf14⟩
        have H14 := hid (H13.out.fr hf14)
        clear hf14
        go_wp2_with fail
        refine (HCA.out _ H14.out).mono ?_
        rintro e w15 ⟨rfl, rfl⟩
        go_wp2_with fail
        go_roundw
        case rel => exact ⟨i + 1, by omega, by go_num, H14⟩
        case measure => simp [intOf]; omega
      · have hc := rename_d HP.out HE.out.s6 HI.out.down ⟨#[97]⟩ ⟨#[99]⟩ (by decide) (by decide) (by rw [HI.out.calls]; decide)
        rw [Z1.out] at hc
        go_wp2_with fail
        refine hc.mono ?_
        rintro e w13 ⟨rfl, h13, -⟩
        have H13 := hid h13
        clear h13 hc
        go_wp2_with fail
        refine (HIS.out _ H13.out.f).mono ?_
        rintro e w14 ⟨rfl, hf14⟩
        have H14 := hid (H13.out.fr hf14)
        clear hf14
        go_wp2_with fail
        refine (HCA.out _ H14.out).mono ?_
        rintro e w15 ⟨rfl, rfl⟩
        go_wp2_with fail
        go_roundw
        case rel => exact ⟨i + 1, by omega, by go_num, H14⟩
        case measure => simp [intOf]; omega
      · have hc := remove_d HP.out HE.out.s6 HI.out.down ⟨#[97]⟩ (by decide) (by rw [HI.out.calls]; decide)
        rw [Z1.out] at hc
        go_wp2_with fail
        refine hc.mono ?_
        rintro e w13 ⟨rfl, h13, -⟩
        have H13 := hid h13
        clear h13 hc
        go_wp2_with fail
        refine (HIS.out _ H13.out.f).mono ?_
        rintro e w14 ⟨rfl, hf14⟩
        have H14 := hid (H13.out.fr hf14)
        clear hf14
        go_wp2_with fail
        refine (HCA.out _ H14.out).mono ?_
        rintro e w15 ⟨rfl, rfl⟩
        go_wp2_with fail
        go_roundw
        case rel => exact ⟨i + 1, by omega, by go_num, H14⟩
        case measure => simp [intOf]; omega
      · have hc := read_d HP.out HE.out.s6 HI.out.down ⟨#[97]⟩ (by decide) 0 0 (by decide) (by decide)
        rw [Z1.out] at hc
        go_wp2_with fail
        refine hc.mono ?_
        rintro e w13 ⟨hf13, v13, rfl⟩
        have H13 := hid (HP.out.fr hf13)
        clear hf13 hc
        go_wp2_with fail
        refine (HIS.out _ H13.out.f).mono ?_
        rintro e w14 ⟨rfl, hf14⟩
        have H14 := hid (H13.out.fr hf14)
        clear hf14
        go_wp2_with fail
        refine (HCA.out _ H14.out).mono ?_
        rintro e w15 ⟨rfl, rfl⟩
        go_wp2_with fail
        go_roundw
        case rel => exact ⟨i + 1, by omega, by go_num, H14⟩
        case measure => simp [intOf]; omega
      · have hc := len_d HP.out HE.out.s6 HI.out.down ⟨#[110, 111, 110, 101]⟩ (by decide)
        rw [Z1.out] at hc
        go_wp2_with fail
        refine hc.mono ?_
        rintro e w13 ⟨rfl, hf13⟩
        have H13 := hid (HP.out.fr hf13)
        clear hf13 hc
        go_wp2_with fail
        refine (HIS.out _ H13.out.f).mono ?_
        rintro e w14 ⟨rfl, hf14⟩
        have H14 := hid (H13.out.fr hf14)
        clear hf14
        go_wp2_with fail
        refine (HCA.out _ H14.out).mono ?_
        rintro e w15 ⟨rfl, rfl⟩
        go_wp2_with fail
        go_roundw
        case rel => exact ⟨i + 1, by omega, by go_num, H14⟩
        case measure => simp [intOf]; omega
      · have hc := synced_d HP.out HE.out.s6 HI.out.down ⟨#[97]⟩ (by decide)
        rw [Z1.out] at hc
        go_wp2_with fail
        refine hc.mono ?_
        rintro e w13 ⟨rfl, hf13⟩
        have H13 := hid (HP.out.fr hf13)
        clear hf13 hc
        go_wp2_with fail
        refine (HIS.out _ H13.out.f).mono ?_
        rintro e w14 ⟨rfl, hf14⟩
        have H14 := hid (H13.out.fr hf14)
        clear hf14
        go_wp2_with fail
        refine (HCA.out _ H14.out).mono ?_
        rintro e w15 ⟨rfl, rfl⟩
        go_wp2_with fail
        go_roundw
        case rel => exact ⟨i + 1, by omega, by go_num, H14⟩
        case measure => simp [intOf]; omega
    · have hltI : ¬ (i : Int) < l.length := by omega
      go_wp2_with fail
      refine (crash0_p HP.out (by rw [HI.out.calls]; decide)).mono ?_
      rintro e w12 ⟨rfl, L, hL, h12, -⟩
      obtain ⟨k1, k2⟩ := HI.out.back hL
      have hq : ∃ p3 : PS, PW W w12 X p3 ∧ p3.names = pt [] ⟨#[97]⟩ F ∧ (p3.fs F).by_ = b ∧ p3.calm ∧ p3.calls = 4 ∧ p3.files = 1 := ⟨_, h12, k1, k2, ⟨rfl, rfl⟩, HI.out.calls, HI.out.files⟩
      clear h12 k1 k2 hL
      obtain ⟨p3, h12, k1, k2, k3, k4, k5⟩ := hq
      have H12 := hid h12; have K1 := hid k1; have K2 := hid k2; have K3 := hid k3; have K4 := hid k4; have K5 := hid k5
      clear h12 k1 k2 k3 k4 k5
      have HRD := hid (read_p H12.out HE.out.s6 (nm := ⟨#[97]⟩) (k := F) K3.out (by rw [K1.out]; exact lk_one _ _) 0 b.length (by rw [K2.out]; omega))
      rw [show ((p3.fs F).by_.take (0 + b.length)).drop 0 = b by rw [List.drop_zero, Nat.zero_add, K2.out, List.take_length]] at HRD
      go_wp2_with fail
      refine HRD.out.mono ?_
      rintro e w13 ⟨hf13, v13, rfl, hv13⟩
      have H13 := hid (H12.out.fr hf13)
      obtain ⟨av, cv, hve, -⟩ := own_len hv13
      have hb13 := hv13.bs2
      subst hve
      have HSB := hid (sameBytes_any _ _ _ _ _ _ w13 hb13 (HB.out.frame H13.out.f fun _ _ => id))
      rw [decide_eq_true rfl] at HSB
      have HDN3 := hid (fun (W2 : World) (h : PW W W2 X p3) => down_p h)
      rw [K3.out.1] at HDN3
      clear hf13 hv13 hb13
      go_wp2_with fail
      refine HSB.out.mono ?_
      rintro e w14 ⟨rfl, q14, rfl⟩
      have H14 := hid (H13.out.fr ((Fr.refl (fun _ => False) w13).drewN q14))
      go_wp2_with fail
      refine (HDN3.out _ H14.out).mono ?_
      rintro e w15 ⟨rfl, rfl⟩
      go_wp2_with fail
      refine (create_p H14.out HE.out.s6 (nm := ⟨#[98]⟩) K3.out (by decide +kernel) (by rw [K1.out, lk_pt, if_neg (by decide +kernel)]; rfl) ⟨by rw [K4.out]; decide, by rw [K5.out]; decide⟩).mono ?_
      rintro e w16 ⟨rfl, G, -, h16, -⟩
      have HFin := hid h16.f
      clear h16
      go_wp2_with fail
      go_ret
      exact ⟨rfl, HFin.out⟩
end Go.Proofs.YtlhbgobjhddhlaaDoor
