/- The statement DiskRooms, walked. -/
import Derived.Test.YtlhbgobjhddhlaaDoorDiskRoomsP
namespace Go.Proofs.YtlhbgobjhddhlaaDoor
open Go.RowKit
variable {w0 w w' : World} {pa : Nat → Addr} {nm : ByteArray} {X : Nat}

/-- What stands at round i. -/
structure RoomI (p : PS) (room : Int) (used i : Nat) : Prop where
  calm : p.calm
  room : p.room = room
  used : p.used = used
  nm : ∀ q ∈ p.names, ∃ j, j < i ∧ q.1 = nm1 (97 + j)
  calls : p.calls ≤ 3 * i
  files : p.files = i
set_option maxRecDepth 100000 in
set_option maxHeartbeats 6400000 in
theorem diskRooms_any (pa : Nat → Addr) (n0 : Int) (b0 : -9223372036854775808 ≤ n0) (c0 : n0 ≤ 9223372036854775807) (D : Nat → Prop) (v : Value) (l : List Int) (W : World) (hl : Is D W v l) (hr : ∀ k, -9223372036854775808 ≤ l.getD k 0 ∧ l.getD k 0 ≤ 9223372036854775807) (hE : Sent17 W pa) :
    Calls Tryd.prog 3 #[.int .i64 n0, v] W fun e w' => e = .returned (.bool true) ∧ Fr (fun _ => False) W w' := by
  obtain ⟨a, c, rfl, h1, h2, hc⟩ := id hl
  have HFI := hid (dfirst_any (w := W) hE.s6)
  have hnum := number_any n0 300
  have hnb : 0 ≤ n0 % 300 ∧ n0 % 300 < 300 := ⟨Int.emod_nonneg _ (by omega), Int.emod_lt_of_pos _ (by omega)⟩
  obtain ⟨R, hR⟩ : ∃ R : Int, n0 % 300 + 1 = R := ⟨_, rfl⟩
  have hRb : 1 ≤ R ∧ R ≤ 300 := by omega
  have wr1 : IntKind.i64.wrap (n0 % 300 + 1) = R := by rw [hR]; exact IntWalk.i64_in _ (by omega)
  have HC := hid hc; have HRR := hid hr; have HE := hid hE; have HNUM := hid hnum; have HRB := hid hRb
  clear hl hr hE hc hnum hRb hR hnb
  go_enter Tryd.func3, Tryd.ntmps3
  go_wp2_with fail
  refine HFI.out.mono ?_
  rintro e w1 ⟨rfl, hf1⟩
  have HF1 := hid hf1
  clear hf1
  go_wp2_with fail
  refine (HNUM.out w1 (by omega) (by omega) b0 c0).mono ?_
  rintro e w2 ⟨rfl, rfl⟩
  by_cases hlen : 20 < l.length
  · have hlI : (20 : Int) < l.length := by omega
    go_wp2_with fail
    go_ret
    exact ⟨rfl, HF1.out⟩
  have hlI : ¬ (20 : Int) < l.length := by omega
  have HN := hid (new_p (HE.out.s6) HF1.out R)
  go_wp2_with fail
  refine HN.out.mono ?_
  rintro e w3 ⟨-, h3⟩
  obtain ⟨X, rfl, h3, -⟩ := h3 (by unfold newOk; have := HRB.out; rw [decide_eq_true (by omega), decide_eq_true (by omega)]; rfl)
  have H3 := hid h3
  clear h3 wr1 hlI b0 c0
  go_wp2_with fail
  go_loopw [8, 9] (fun uv iv wr => ∃ (i u : Nat) (p : PS), i ≤ l.length ∧ uv = .int .i64 u ∧ iv = .int .i64 i ∧ Hid (RoomI p R u i) ∧ Hid (PW W wr X p)) (fun _ iv _ => l.length - (intOf iv).toNat)
  case atStart => exact ⟨0, 0, PS.new R, Nat.zero_le _, rfl, rfl, hid ⟨⟨rfl, rfl⟩, rfl, rfl, fun q hq => by simp [PS.new] at hq, Nat.le_refl _, rfl⟩, H3⟩
  case round =>
    obtain ⟨i, u, p, hi, rfl, rfl, HI, HP⟩ := hrel
    by_cases hlt : i < l.length
    · have hltI : (i : Int) < l.length := by omega
      obtain ⟨k, hk⟩ : ∃ k, 97 + i = k := ⟨_, rfl⟩
      have hkI : (97 : Int) + i = (k : Int) := by omega
      have wk1 : IntKind.i64.wrap ((97 : Int) + i) = (k : Int) := by rw [hkI]; exact IntWalk.i64_in _ (by omega)
      have wk2 : IntKind.u8.wrap (k : Int) = (k : Int) := IntWalk.u8_in _ (by omega)
      have hkc : (UInt8.ofNat k).toNat = k := by rw [UInt8.toNat_ofNat']; omega
      have hrow := heap_alloc_new wr (.cells #[.int .u8 (k : Int)] 5)
      have hB0 : Bs (fun q => q = wr.heap.size) (wr.alloc (.cells #[.int .u8 (k : Int)] 5)) (.slice (some ⟨wr.heap.size, 0, none⟩) 1 1) [UInt8.ofNat k] := by
        have := Bs.row (w := wr.alloc (.cells #[.int .u8 (k : Int)] 5)) (g := wr.heap.size) (l := [UInt8.ofNat k]) (fz := (0, 0)) (by rw [hrow]; simp [bV, hkc]) (by simp [maxLen])
        simpa using this
      have hcv := conv_bytes hB0 30 5 9 Tryd.underlying30 Tryd.underlying5 Tryd.underlying9
      have hfa := (Fr.refl (fun _ => False) wr).alloc (.cells #[.int .u8 (k : Int)] 5)
      have HFA := hid hfa
      obtain ⟨b, o, x, rfl, -, hcell, rfl⟩ := HC.out i hlt
      have hcell' := hfa.cell (HP.out.f.cell hcell not_false) not_false
      obtain ⟨z, hz⟩ : ∃ z, l.getD i 0 = z := ⟨_, rfl⟩
      have hzr := HRR.out i
      rw [hz] at hcell' hzr
      have hm : (0 ≤ z % 80) ∧ z % 80 < 80 := ⟨Int.emod_nonneg _ (by omega), Int.emod_lt_of_pos _ (by omega)⟩
      obtain ⟨m, hmz⟩ : ∃ m : Nat, z % 80 = (m : Int) := ⟨(z % 80).toNat, by omega⟩
      have hm80 : m < 80 := by omega
      have HNZ := hid (fun w => number_any z 80 w (by omega) (by omega) hzr.1 hzr.2)
      rw [hmz] at HNZ
      have HRW := hid hrow
      clear hkI hrow hB0 hcell hz hzr hm hmz
      go_wp2_with fail
      refine (HNZ.out _).mono ?_
      rintro e w4 ⟨rfl, rfl⟩
      have hcr := create_p (HP.out.fr HFA.out) HE.out.s6 (nm := nm1 k) HI.out.calm (nm1_ok (by omega) (by have := HI.out; omega)) (lk_none.2 fun q hq e => by
        obtain ⟨j, hj, e2⟩ := HI.out.nm q hq
        have := nm1_inj (a := 97 + j) (b := k) (by omega) (by omega) (e2.symm.trans e)
        omega) ⟨by have := HI.out.calls; omega, by have := HI.out.files; omega⟩
      have HLN := hid (show lk p.names (nm1 k) = none from lk_none.2 fun q hq e => by
        obtain ⟨j, hj, e2⟩ := HI.out.nm q hq
        have := nm1_inj (a := 97 + j) (b := k) (by omega) (by omega) (e2.symm.trans e)
        omega)
      have HCR := hid hcr
      clear hcr wk1 wk2 hkc hcv hfa hcell'
      go_wp2_with fail
      refine HCR.out.mono ?_
      rintro e w5 ⟨rfl, F, hF, h5, -⟩
      have hok := h5.ok
      have hus : (p.create (nm1 k) F).used = u := (PS.used_create HLN.out hF).trans HI.out.used
      have hlk1 : lk (p.create (nm1 k) F).names (nm1 k) = some F := (lk_pt _ _ _ _).trans (if_pos rfl)
      have huq : ∀ q ∈ (p.create (nm1 k) F).names, q.2 = F → q.1 = nm1 k := fun q hq e => by
        rcases List.mem_cons.1 hq with h | h
        · rw [h]
        · exact absurd e (hF q.2 (.inl ⟨q.1, (mem_dl.1 h).1⟩))
      have hnm1 : ∀ q ∈ (p.create (nm1 k) F).names, ∃ j, j < i + 1 ∧ q.1 = nm1 (97 + j) := fun q hq => by
        rcases List.mem_cons.1 hq with h | h
        · exact ⟨i, by omega, by rw [h, hk]⟩
        · obtain ⟨j, hj, e⟩ := HI.out.nm q (mem_dl.1 h).1
          exact ⟨j, by omega, e⟩
      have hfF : (p.create (nm1 k) F).fs F = ⟨p.files + 1, [], 0⟩ := upd_same _ _ _
      have hcalm : (p.create (nm1 k) F).calm := HI.out.calm
      have hroom : (p.create (nm1 k) F).room = R := HI.out.room
      have hcalls : (p.create (nm1 k) F).calls ≤ 3 * i + 1 := by have := HI.out.calls; show p.calls + 1 ≤ _; omega
      have hfiles : (p.create (nm1 k) F).files = i + 1 := by have := HI.out.files; show p.files + 1 = _; omega
      have hnn : (p.create (nm1 k) F).names = pt p.names (nm1 k) F := rfl
      have hdn : dl (pt p.names (nm1 k) F) (nm1 k) = p.names := by
        have e1 := dl_none HLN.out
        unfold pt
        rw [e1]
        unfold dl at e1 ⊢
        rw [List.filter_cons, if_neg (by simp), e1]
      generalize p.create (nm1 k) F = p1 at *
      obtain ⟨w6, hmk, hf6, hB6, hBB6⟩ := mk_bytes m (by omega) w5 m rfl
      have hlen0 : (List.replicate m (0 : UInt8)).length = m := by simp
      have H5 := hid h5; have HF6 := hid hf6; have HB6 := hid hB6; have HBB6 := hid hBB6; have HOK := hid hok; have HUS := hid hus; have HLK1 := hid hlk1; have HUQ := hid huq; have HNM1 := hid hnm1; have HFF := hid hfF; have HCALM := hid hcalm; have HROOM := hid hroom; have HCALLS := hid hcalls; have HFILES := hid hfiles; have HNN := hid hnn; have HDN := hid hdn; have HLEN0 := hid hlen0
      have HUB := hid (show u ≤ 4194304 * 100 from by have h1 := PS.used_le hok; rw [hus] at h1; have := Nat.mul_le_mul_left 4194304 (show p1.calls ≤ 100 by omega); omega)
      clear hF h5 hf6 hB6 hBB6 hok hus hlk1 huq hnm1 hfF hcalm hroom hcalls hfiles hnn hdn hlen0
      by_cases hfit : u + m ≤ R
      · have HAP := hid (append_p (H5.out.fr HF6.out) HE.out.s6 (nm := nm1 k) HCALM.out HLK1.out _ _ _ HB6.out (fun q hq => by rw [hq]; exact HBB6.out) (by rw [HUS.out, HROOM.out, HLEN0.out]; exact hfit) (by have := HCALLS.out; omega))
        have wu : IntKind.i64.wrap ((u : Int) + m) = (u : Int) + m := IntWalk.i64_in _ (by have := HUB.out; omega)
        go_wp2_with fail
        refine HAP.out.mono ?_
        rintro e w7 ⟨rfl, h7, -⟩
        have hfs2 : ((p1.put F ⟨(p1.fs F).id, (p1.fs F).by_ ++ List.replicate m 0, (p1.fs F).sy⟩).fs F).by_.length + u = u + m := by
          show (upd p1.fs F _ F).by_.length + u = u + m
          rw [upd_same]
          dsimp only
          rw [HFF.out, List.nil_append, HLEN0.out]
          omega
        have hus2 : (p1.put F ⟨(p1.fs F).id, (p1.fs F).by_ ++ List.replicate m 0, (p1.fs F).sy⟩).used = u + m := by
          have := PS.used_put (f := ⟨(p1.fs F).id, (p1.fs F).by_ ++ List.replicate m 0, (p1.fs F).sy⟩) HOK.out.kn HLK1.out HUQ.out
          rw [HUS.out, HFF.out] at this
          simp only [List.nil_append, List.length_nil, HLEN0.out] at this
          rw [HFF.out]
          simp only [List.nil_append]
          omega
        have hnn2 : (p1.put F ⟨(p1.fs F).id, (p1.fs F).by_ ++ List.replicate m 0, (p1.fs F).sy⟩).names = pt p.names (nm1 k) F := HNN.out
        have hca2 : (p1.put F ⟨(p1.fs F).id, (p1.fs F).by_ ++ List.replicate m 0, (p1.fs F).sy⟩).calm := HCALM.out
        have hro2 : (p1.put F ⟨(p1.fs F).id, (p1.fs F).by_ ++ List.replicate m 0, (p1.fs F).sy⟩).room = R := HROOM.out
        have hcl2 : (p1.put F ⟨(p1.fs F).id, (p1.fs F).by_ ++ List.replicate m 0, (p1.fs F).sy⟩).calls ≤ 3 * i + 2 := by have := HCALLS.out; show p1.calls + 1 ≤ _; omega
        have hfi2 : (p1.put F ⟨(p1.fs F).id, (p1.fs F).by_ ++ List.replicate m 0, (p1.fs F).sy⟩).files = i + 1 := HFILES.out
        have hnm2 : ∀ q ∈ (p1.put F ⟨(p1.fs F).id, (p1.fs F).by_ ++ List.replicate m 0, (p1.fs F).sy⟩).names, ∃ j, j < i + 1 ∧ q.1 = nm1 (97 + j) := HNM1.out
        generalize p1.put F ⟨(p1.fs F).id, (p1.fs F).by_ ++ List.replicate m 0, (p1.fs F).sy⟩ = p2 at *
        obtain ⟨u2, hu2⟩ : ∃ u2, u + m = u2 := ⟨_, rfl⟩
        have huI : (u : Int) + m = (u2 : Int) := by omega
        have hfI : (u2 : Int) ≤ R := by omega
        have wu2 : IntKind.i64.wrap ((u : Int) + m) = (u2 : Int) := by rw [huI]; exact IntWalk.i64_in _ (by have := HUB.out; omega)
        clear wu
        rw [hu2] at hfs2 hus2
        have H7 := hid h7; have HFS2 := hid hfs2; have HUS2 := hid hus2; have HNN2 := hid hnn2; have HCA2 := hid hca2; have HRO2 := hid hro2; have HCL2 := hid hcl2; have HFI2 := hid hfi2; have HNM2 := hid hnm2
        have HU2 := hid (show u2 ≤ 4194304 * 200 from by have := HUB.out; omega)
        clear h7 hfs2 hus2 hnn2 hca2 hro2 hcl2 hfi2 hnm2 huI hu2 hfit
        cases h3 : ((i : Int) % 3 == 2) with
        | false =>
          go_wp2_with fail
          refine (used_p H7.out (by have := HCL2.out; omega)).mono ?_
          rintro e w8 ⟨rfl, hf8⟩
          rw [HUS2.out]
          have H8 := hid (H7.out.fr hf8)
          have wi : IntKind.i64.wrap ((i : Int) + 1) = (i : Int) + 1 := IntWalk.i64_in _ (by omega)
          clear hf8
          go_wp2_with fail
          go_roundw
          case rel => exact ⟨i + 1, u2, p2, by omega, rfl, by go_num, hid ⟨HCA2.out, HRO2.out, HUS2.out, HNM2.out, by have := HCL2.out; omega, HFI2.out⟩, H8⟩
          case measure => simp [intOf]; omega
        | true =>
          have hln := (HNN2.out ▸ (lk_pt p.names (nm1 k) F (nm1 k)).trans (if_pos rfl) : lk p2.names (nm1 k) = some F)
          have HLEN := hid (len_p H7.out HE.out.s6 (nm := nm1 k) HCA2.out hln)
          have hrm := PS.used_rm H7.out.ok.kn hln (nm1_ne k)
          have hdl : (p2.change ⟨⟨#[]⟩, nm1 k, none⟩).names = p.names := by
            show applyM p2.names ⟨⟨#[]⟩, nm1 k, none⟩ = p.names
            unfold applyM
            dsimp only
            rw [if_neg (nm1_ne k), HNN2.out]
            exact HDN.out
          obtain ⟨d, hd⟩ : ∃ d, (p2.fs F).by_.length = d := ⟨_, rfl⟩
          have hfs := HFS2.out
          rw [hd] at HLEN hrm hfs
          have hu3 : (p2.change ⟨⟨#[]⟩, nm1 k, none⟩).used = u := by have := HUS2.out; omega
          have HREM := hid (fun (W2 : World) (hf : Fr (fun _ => False) w7 W2) => remove_p (H7.out.fr hf) HE.out.s6 (nm := nm1 k) HCA2.out hln (by have := HCL2.out; omega))
          have wd : IntKind.i64.wrap ((u2 : Int) - d) = (u : Int) := by rw [← hfs]; exact (IntWalk.i64_in _ (by have := HU2.out; omega)).trans (by omega)
          have HU3 := hid hu3; have HDL := hid hdl
          clear hln hrm hd hfs hu3 hdl
          go_wp2_with fail
          refine HLEN.out.mono ?_
          rintro e w8 ⟨rfl, hf8⟩
          have HF8 := hid hf8
          clear hf8
          go_wp2_with fail
          refine (HREM.out w8 HF8.out).mono ?_
          rintro e w9 ⟨rfl, h9, -⟩
          have HC9 := hid (show (p2.change ⟨⟨#[]⟩, nm1 k, none⟩).calls ≤ 3 * i + 3 by have := HCL2.out; show p2.calls + 1 ≤ _; omega)
          have HCA9 := hid (show (p2.change ⟨⟨#[]⟩, nm1 k, none⟩).calm from HCA2.out)
          have HRO9 := hid (show (p2.change ⟨⟨#[]⟩, nm1 k, none⟩).room = R from HRO2.out)
          have HFI9 := hid (show (p2.change ⟨⟨#[]⟩, nm1 k, none⟩).files = i + 1 from HFI2.out)
          have H9 := hid h9
          clear h9
          generalize p2.change ⟨⟨#[]⟩, nm1 k, none⟩ = p3 at *
          go_wp2_with fail
          refine (used_p H9.out (by have := HC9.out; omega)).mono ?_
          rintro e w10 ⟨rfl, hf10⟩
          rw [HU3.out]
          have H10 := hid (H9.out.fr hf10)
          have wi : IntKind.i64.wrap ((i : Int) + 1) = (i : Int) + 1 := IntWalk.i64_in _ (by omega)
          clear hf10
          go_wp2_with fail
          go_roundw
          case rel => exact ⟨i + 1, u, p3, by omega, rfl, by go_num, hid ⟨HCA9.out, HRO9.out, HU3.out, fun q hq => by
            rw [HDL.out] at hq
            obtain ⟨j, hj, e⟩ := HI.out.nm q hq
            exact ⟨j, by omega, e⟩, by have := HC9.out; omega, HFI9.out⟩, H10⟩
          case measure => simp [intOf]; omega
      · have HAP := hid (appendfull_p (H5.out.fr HF6.out) HE.out.s6 (nm := nm1 k) HCALM.out HLK1.out _ _ _ HB6.out (fun q hq => by rw [hq]; exact HBB6.out) (by rw [HUS.out, HROOM.out, HLEN0.out]; omega) (by rw [HLEN0.out]; omega) (by have := HCALLS.out; omega))
        obtain ⟨u2, hu2⟩ : ∃ u2, u = u2 := ⟨_, rfl⟩
        subst hu2
        obtain ⟨p2, hp2⟩ : ∃ p2, p1 = p2 := ⟨_, rfl⟩
        subst hp2
        have wu : IntKind.i64.wrap ((u : Int) + m) = (u : Int) + m := IntWalk.i64_in _ (by have := HUB.out; omega)
        have z1 : errV pa 109 = .iface 148 (.pointer (some (pa 8))) := rfl
        have HIS := hid (fun (W2 : World) (hf : Fr (fun _ => False) W W2) => is_num W2 pa (HE.out.frame hf) 109 (by unfold ErrNo; omega) 109)
        rw [z1] at HAP HIS
        clear z1
        have hdc : decide (((109 : Nat) : Int) = 109) = true := by decide
        rw [hdc] at HIS
        clear hdc
        go_wp2_with fail
        refine HAP.out.mono ?_
        rintro e w7 ⟨rfl, h7, -⟩
        have H70 := hid h7
        clear h7
        go_wp2_with fail
        refine (HIS.out w7 H70.out.f).mono ?_
        rintro e w70 ⟨rfl, hf70⟩
        have H7 := hid (H70.out.fr hf70)
        clear hf70 wu
        have HFS2 := hid (show (p1.fs F).by_.length + u = u by rw [HFF.out]; simp)
        have HUS2 := HUS; have HNN2 := HNN; have HCA2 := HCALM; have HRO2 := HROOM
        have HCL2 := hid (show p1.calls ≤ 3 * i + 2 by have := HCALLS.out; omega)
        have HFI2 := HFILES; have HNM2 := HNM1
        have HU2 := hid (show u ≤ 4194304 * 200 from by have := HUB.out; omega)
        cases h3 : ((i : Int) % 3 == 2) with
        | false =>
          go_wp2_with fail
          refine (used_p H7.out (by have := HCL2.out; omega)).mono ?_
          rintro e w8 ⟨rfl, hf8⟩
          rw [HUS2.out]
          have H8 := hid (H7.out.fr hf8)
          have wi : IntKind.i64.wrap ((i : Int) + 1) = (i : Int) + 1 := IntWalk.i64_in _ (by omega)
          clear hf8
          go_wp2_with fail
          go_roundw
          case rel => exact ⟨i + 1, u, p1, by omega, rfl, by go_num, hid ⟨HCA2.out, HRO2.out, HUS2.out, HNM2.out, by have := HCL2.out; omega, HFI2.out⟩, H8⟩
          case measure => simp [intOf]; omega
        | true =>
          have hln := (HNN2.out ▸ (lk_pt p.names (nm1 k) F (nm1 k)).trans (if_pos rfl) : lk p1.names (nm1 k) = some F)
          have HLEN := hid (len_p H7.out HE.out.s6 (nm := nm1 k) HCA2.out hln)
          have hrm := PS.used_rm H7.out.ok.kn hln (nm1_ne k)
          have hdl : (p1.change ⟨⟨#[]⟩, nm1 k, none⟩).names = p.names := by
            show applyM p1.names ⟨⟨#[]⟩, nm1 k, none⟩ = p.names
            unfold applyM
            dsimp only
            rw [if_neg (nm1_ne k), HNN2.out]
            exact HDN.out
          obtain ⟨d, hd⟩ : ∃ d, (p1.fs F).by_.length = d := ⟨_, rfl⟩
          have hfs := HFS2.out
          rw [hd] at HLEN hrm hfs
          have hu3 : (p1.change ⟨⟨#[]⟩, nm1 k, none⟩).used = u := by have := HUS2.out; omega
          have HREM := hid (fun (W2 : World) (hf : Fr (fun _ => False) w70 W2) => remove_p (H7.out.fr hf) HE.out.s6 (nm := nm1 k) HCA2.out hln (by have := HCL2.out; omega))
          have wd : IntKind.i64.wrap ((u : Int) - d) = (u : Int) := by rw [← hfs]; exact (IntWalk.i64_in _ (by have := HU2.out; omega)).trans (by omega)
          have HU3 := hid hu3; have HDL := hid hdl
          clear hln hrm hd hfs hu3 hdl
          go_wp2_with fail
          refine HLEN.out.mono ?_
          rintro e w8 ⟨rfl, hf8⟩
          have HF8 := hid hf8
          clear hf8
          go_wp2_with fail
          refine (HREM.out w8 HF8.out).mono ?_
          rintro e w9 ⟨rfl, h9, -⟩
          have HC9 := hid (show (p1.change ⟨⟨#[]⟩, nm1 k, none⟩).calls ≤ 3 * i + 3 by have := HCL2.out; show p1.calls + 1 ≤ _; omega)
          have HCA9 := hid (show (p1.change ⟨⟨#[]⟩, nm1 k, none⟩).calm from HCA2.out)
          have HRO9 := hid (show (p1.change ⟨⟨#[]⟩, nm1 k, none⟩).room = R from HRO2.out)
          have HFI9 := hid (show (p1.change ⟨⟨#[]⟩, nm1 k, none⟩).files = i + 1 from HFI2.out)
          have H9 := hid h9
          clear h9
          generalize p1.change ⟨⟨#[]⟩, nm1 k, none⟩ = p3 at *
          go_wp2_with fail
          refine (used_p H9.out (by have := HC9.out; omega)).mono ?_
          rintro e w10 ⟨rfl, hf10⟩
          rw [HU3.out]
          have H10 := hid (H9.out.fr hf10)
          have wi : IntKind.i64.wrap ((i : Int) + 1) = (i : Int) + 1 := IntWalk.i64_in _ (by omega)
          clear hf10
          go_wp2_with fail
          go_roundw
          case rel => exact ⟨i + 1, u, p3, by omega, rfl, by go_num, hid ⟨HCA9.out, HRO9.out, HU3.out, fun q hq => by
            rw [HDL.out] at hq
            obtain ⟨j, hj, e⟩ := HI.out.nm q hq
            exact ⟨j, by omega, e⟩, by have := HC9.out; omega, HFI9.out⟩, H10⟩
          case measure => simp [intOf]; omega
    · have hltI : ¬ (i : Int) < l.length := by omega
      have HFin := hid HP.out.f
      go_wp2_with fail
      go_ret
      exact ⟨rfl, HFin.out⟩
end Go.Proofs.YtlhbgobjhddhlaaDoor
