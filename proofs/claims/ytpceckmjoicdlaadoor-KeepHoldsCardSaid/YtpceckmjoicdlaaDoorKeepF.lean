/- Package keep: Save on a calm disk. -/
import Derived.Test.YtpceckmjoicdlaaDoorKeepE
namespace Go.Proofs.YtpceckmjoicdlaaDoor
open Go.RowKit
variable {w0 w w' : World} {pa : Nat → Addr} {nm : ByteArray} {X : Nat}

theorem kNew_ne : kNew ≠ kW0 ∧ kNew ≠ kW1 ∧ kW0 ≠ kW1 := by decide +kernel
/-- What stands once the fresh file is gone. -/
structure Gone (p p1 : PS) : Prop where
  calm : p1.calm
  room : p1.room = p.room
  calls : p1.calls ≤ p.calls + 1
  files : p1.files = p.files
  fs : p1.fs = p.fs
  lk : ∀ t, lk p1.names t = if t = kNew then none else lk p.names t
  used : p1.used ≤ p.used
  fl : ∀ t k, t ≠ kNew → Go.Proofs.YtpceckmjoicdlaaDoor.lk p.names t = some k → PFl p1 k
  kn : Ks p1.names
theorem Gone.same {p : PS} (hc : p.calm) (hk : Ks p.names) (h : Go.Proofs.YtpceckmjoicdlaaDoor.lk p.names kNew = none) : Gone p p := ⟨hc, rfl, Nat.le_succ _, rfl, rfl, fun t => by
  by_cases e : t = kNew
  · rw [if_pos e, e]; exact h
  · rw [if_neg e], Nat.le_refl _, fun t k _ h => .inl ⟨t, (lk_mem hk).1 h⟩, hk⟩
theorem Gone.rm {p : PS} (hc : p.calm) (hk : Ks p.names) {k : Nat} (h : Go.Proofs.YtpceckmjoicdlaaDoor.lk p.names kNew = some k) : Gone p (p.change ⟨⟨#[]⟩, kNew, none⟩) := by
  have hne : kNew ≠ ⟨#[]⟩ := by decide +kernel
  have hn : (p.change ⟨⟨#[]⟩, kNew, none⟩).names = dl p.names kNew := by
    show applyM p.names ⟨⟨#[]⟩, kNew, none⟩ = dl p.names kNew
    unfold applyM
    dsimp only
    rw [if_neg hne]
  refine ⟨hc, rfl, Nat.le_refl _, rfl, rfl, fun t => by rw [hn, lk_dl], ?_, fun t q ht hq => .inl ⟨t, by rw [hn]; exact mem_dl.2 ⟨(lk_mem hk).1 hq, ht⟩⟩, by rw [hn]; exact ks_dl hk _⟩
  have := PS.used_rm hk h hne
  omega
/-- Behind Create, Append, Sync, Rename, SyncDir. -/
theorem Gone.saved {p p1 : PS} (h : Gone p p1) {F : Nat} (hF : ∀ k, PFl p1 k → k ≠ F) (nt : ByteArray) (hnt : nt ≠ kNew) (bytes : List UInt8) :
    Saved p ((((((p1.create kNew F).put F ⟨((p1.create kNew F).fs F).id, ((p1.create kNew F).fs F).by_ ++ bytes, ((p1.create kNew F).fs F).sy⟩).put F ⟨(((p1.create kNew F).put F ⟨((p1.create kNew F).fs F).id, ((p1.create kNew F).fs F).by_ ++ bytes, ((p1.create kNew F).fs F).sy⟩).fs F).id, (((p1.create kNew F).put F ⟨((p1.create kNew F).fs F).id, ((p1.create kNew F).fs F).by_ ++ bytes, ((p1.create kNew F).fs F).sy⟩).fs F).by_, (((p1.create kNew F).put F ⟨((p1.create kNew F).fs F).id, ((p1.create kNew F).fs F).by_ ++ bytes, ((p1.create kNew F).fs F).sy⟩).fs F).by_.length⟩).change (renC kNew nt F))).syncDir) nt F bytes := by
  have hne : kNew ≠ ⟨#[]⟩ := by decide +kernel
  have hnn : ∀ t, Go.Proofs.YtpceckmjoicdlaaDoor.lk (applyM (pt p1.names kNew F) (renC kNew nt F)) t = if t = nt then some F else if t = kNew then none else Go.Proofs.YtpceckmjoicdlaaDoor.lk p.names t := fun t => by
    unfold renC applyM
    rw [if_neg (fun e => hnt e.symm)]
    dsimp only
    rw [if_neg hne, lk_pt, lk_dl, lk_pt, h.lk]
    by_cases e1 : t = nt
    · rw [if_pos e1, if_pos e1]
    · rw [if_neg e1, if_neg e1]
      by_cases e2 : t = kNew
      · simp [e2]
      · simp [e2]
  refine ⟨h.calm, h.room, ?_, ?_, rfl, rfl, hnn, fun t k ht hk => hF k (h.fl t k ht hk), ⟨p1.files + 1, ?_⟩, fun k hk => ?_⟩
  · show p1.calls + 1 + 1 + 1 + 1 + 1 ≤ _
    have := h.calls
    omega
  · show p1.files + 1 = _
    rw [h.files]
  · simp [PS.syncDir, PS.change, PS.put, PS.create]
  · simp only [PS.syncDir, PS.change, PS.put, PS.create]
    rw [upd_ne _ _ hk, upd_ne _ _ hk, upd_ne _ _ hk, h.fs]
set_option maxRecDepth 100000 in
set_option maxHeartbeats 25600000 in
/-- Save. -/
theorem save_any {p : PS} (h : PW w0 w X p) (hE : Sent17 w0 pa) (hc : p.calm) (hcl : p.calls ≤ 100000 ∧ p.files ≤ 100000) (vb : Value) (b : List UInt8) (hb : KB w0 w vb b) (hbl : b.length ≤ 65536) (u : Nat) (hu : IntKind.u64.wrap (IntKind.i64.wrap ((newP (gst p kW0) (gst p kW1)).2.2.1 + 1)) = (u : Int)) (hub : u < 18446744073709551616)
    (hroom : (p.used : Int) + b.length + 24 ≤ p.room) :
    Calls Tryd.prog 8 #[.pointer (some ⟨X, 0, none⟩), vb] w fun e w' => e = .returned .nilIface ∧ FT w0 w w' ∧ ∃ F p', PW w0 w' X p' ∧ Saved p p' (saveTo (newP (gst p kW0) (gst p kW1)).1) F (recsB [le8 u, b]) := by
  have HNW := hid (newest_any h hE hc.1)
  have hcode := newP_code (gst p kW0) (gst p kW1)
  have hname := newP_name (gst p kW0) (gst p kW1)
  have HIS := hid (fun (W2 : World) (hf : Fr (fun _ => False) w0 W2) (m : Nat) (hm : ErrNo m) (j : Nat) (hj : 101 ≤ j ∧ j ≤ 117) => eis_any (hE.frame hf) m hm j hj)
  have HC6 := hid (fun (W2 : World) (hf : Fr (fun _ => False) w0 W2) => (show W2.cell? ⟨2, 0, none⟩ = some (.iface 168 (.pointer (some (pa 6)))) from (hE.frame hf).s 6 (by decide)))
  have HC9 := hid (fun (W2 : World) (hf : Fr (fun _ => False) w0 W2) => (show W2.cell? ⟨1, 0, none⟩ = some (.iface 168 (.pointer (some (pa 9)))) from (hE.frame hf).s 9 (by decide)))
  have hrl : (recsB [le8 u, b]).length = b.length + 24 := by simp [recsB, recB_len, le8]; omega
  generalize newP (gst p kW0) (gst p kW1) = np at *
  obtain ⟨nname, nb, nn, ncode⟩ := np
  dsimp only at HNW hcode hname hu ⊢
  have HNO := hid (fun (W2 : World) (hf : Fr (fun _ => False) w0 W2) => (show Calls Tryd.prog 24 #[errV pa ncode, .iface 168 (.pointer (some (pa 9)))] W2 fun e w' => e = .returned (.bool false) ∧ W2 = w' from by
    have h1 := HIS.out W2 hf ncode (by unfold ErrNo; omega) 110 (by omega)
    rw [decide_eq_false (by omega)] at h1
    exact h1))
  have HI7 := hid (fun (W2 : World) (hf : Fr (fun _ => False) w0 W2) => (show Calls Tryd.prog 24 #[.iface 168 (.pointer (some (pa 6))), .iface 168 (.pointer (some (pa 6)))] W2 fun e w' => e = .returned (.bool true) ∧ W2 = w' from HIS.out W2 hf 107 (by unfold ErrNo; omega) 107 (by omega)))
  have HI0 := hid (fun (W2 : World) (hf : Fr (fun _ => False) w0 W2) => (show Calls Tryd.prog 24 #[.nilIface, .iface 168 (.pointer (some (pa 6)))] W2 fun e w' => e = .returned (.bool false) ∧ W2 = w' from HIS.out W2 hf 0 (by unfold ErrNo; omega) 107 (by omega)))
  obtain ⟨ab, cb, hvb⟩ : ∃ a c, vb = .slice a b.length c := by
    obtain ⟨D, hB⟩ := hb w (Fr.refl _ _)
    obtain ⟨a, c, e, -⟩ := hB
    exact ⟨a, c, e⟩
  subst hvb
  have hks := h.ok.kn
  have HP := hid h; have HE := hid hE; have HCM := hid hc; have HCL := hid hcl; have HB := hid hb; have HBL := hid hbl; have HU := hid hu; have HUB := hid hub; have HRM := hid hroom; have HKS := hid hks; have HRL := hid hrl
  clear h hE hc hcl hb hbl hcode hu hub hroom hks HIS hrl
  have hun : ∀ W2 : World, Calls Tryd.prog 27 #[.int .i64 (IntKind.i64.wrap (nn + 1))] W2 fun e w' => ∃ v', e = .returned v' ∧ OB W2.heap.size w' v' (le8 u) ∧ Fr (fun _ => False) W2 w' := fun W2 => knumber_any (IntKind.i64.wrap (nn + 1)) u (by rw [IntKind.wrap_i64]; omega) HU.out HUB.out W2
  have HNUM := hid hun
  clear hun
  obtain ⟨n1, hn1⟩ : ∃ n1 : Int, IntKind.i64.wrap (nn + 1) = n1 := ⟨_, rfl⟩
  rw [hn1] at HNUM
  go_enter Tryd.func8, Tryd.ntmps8
  go_wp2_with fail
  refine HNW.out.mono ?_
  rintro e w1 ⟨hf1, v1, rfl, ho1⟩
  have H1 := hid (HP.out.fr hf1); have HFT1 := hid (FT.of0 (w0 := w0) hf1)
  obtain ⟨a1, c1, hv1, -⟩ := own_len ho1
  subst hv1
  have c9 := HC9.out w1 H1.out.f
  clear hf1 ho1
  generalize errV pa ncode = ev at *
  go_wp2_with fail
  refine (HNO.out w1 H1.out.f).mono ?_
  rintro e w2 ⟨rfl, rfl⟩
  clear c9
  rcases hname with rfl | rfl | rfl
  · have HTO := hid (show saveTo (⟨#[]⟩ : ByteArray) = kW0 by decide +kernel)
    cases hk : lk p.names kNew with
    | none =>
      have HLN := hid (len0_p H1.out HE.out.s6 (nm := kNew) HCM.out (by decide) hk)
      have z1 : errV pa 107 = .iface 168 (.pointer (some (pa 6))) := rfl
      rw [z1] at HLN
      have HG := hid (Gone.same HCM.out HKS.out hk)
      clear z1 hk
      go_wp2_with fail
      refine HLN.out.mono ?_
      rintro e w3 ⟨rfl, hf3⟩
      have H4 := hid (H1.out.fr hf3); have HFT4 := hid (HFT1.out.trans (FT.of0 (w0 := w0) hf3))
      have c6 := HC6.out w3 H4.out.f
      clear hf3
      go_wp2_with fail
      refine (HI7.out w3 H4.out.f).mono ?_
      rintro e w4 ⟨rfl, rfl⟩
      clear c6
      obtain ⟨p1, hp1⟩ : ∃ p1, p = p1 := ⟨_, rfl⟩
      subst hp1
      have hlk1 : lk p.names kNew = none := by rw [HG.out.lk, if_pos rfl]
      have HLK1 := hid hlk1
      have HP1C := hid (show p.calls ≤ 100001 ∧ p.files ≤ 100000 from by have := HG.out.calls; have := HG.out.files; have := HCL.out; omega)
      clear hlk1
      go_wp2_with fail
      refine (create_p H4.out HE.out.s6 (nm := kNew) HG.out.calm (by decide +kernel) HLK1.out ⟨by have := HP1C.out; omega, by have := HP1C.out; omega⟩).mono ?_
      rintro e w5 ⟨rfl, F, hF, h5, hf5⟩
      have H5 := hid h5; have HFT5 := hid (HFT4.out.trans (FT.of hf5 H4.out.f h5.f)); have HFF := hid hF
      clear h5 hf5 hF
      go_wp2_with fail
      refine (HNUM.out w5).mono ?_
      rintro e w6 ⟨v6, rfl, ho6, hf6⟩
      obtain ⟨a6, c6', hv6, -⟩ := own_len ho6
      rw [show (le8 u).length = 8 from rfl] at hv6
      subst hv6
      have HFT6 := hid (HFT5.out.trans (FT.of0 (w0 := w0) hf6))
      have hfa := (Fr.refl (fun _ => False) w6).alloc (.cells #[.slice a6 8 c6', .slice ab b.length cb] 22)
      have hrow := heap_alloc_new w6 (.cells #[.slice a6 8 c6', .slice ab b.length cb] 22)
      have HFT7 := hid (HFT6.out.trans (FT.of0 (w0 := w0) hfa))
      have H7 := hid (H5.out.fr (hf6.trans' hfa))
      have hput := put_any (fun _ => False) (fun _ => True) (.slice none 0 0) (.slice (some ⟨w6.heap.size, 0, none⟩) 2 2) [] [le8 u, b] (w6.alloc (.cells #[.slice a6 8 c6', .slice ab b.length cb] 22)) (Bs.nil' _ _) ⟨_, 2, rfl, Nat.le_refl _, by simp [maxLen], fun k hk => by
        have hk2 : k = 0 ∨ k = 1 := by simp at hk; omega
        rcases hk2 with rfl | rfl
        · exact ⟨w6.heap.size, 0, .slice a6 8 c6', rfl, trivial, by rw [cell_of_row _ _ _ _ _ _ hrow]; rfl, ((OB.bs ho6).frame hfa fun _ _ => id).mono fun _ _ _ => trivial⟩
        · obtain ⟨D, hB⟩ := HB.out _ HFT7.out
          exact ⟨w6.heap.size, 0, .slice ab b.length cb, rfl, trivial, by rw [cell_of_row _ _ _ _ _ _ hrow]; rfl, hB.mono fun _ _ _ => trivial⟩⟩ (by rw [List.nil_append, HRL.out]; have := HBL.out; omega)
      rw [List.nil_append] at hput
      have HPUT := hid hput
      clear hput hrow hfa hf6 ho6
      go_wp2_with fail
      refine HPUT.out.mono ?_
      rintro e w8 ⟨v8, rfl, ho8, hf8⟩
      have H8 := hid (H7.out.fr hf8); have HFT8 := hid (HFT7.out.trans (FT.of0 (w0 := w0) hf8))
      have hb8 := ho8.bs2
      obtain ⟨a8, c8, hv8, -⟩ := own_len ho8
      subst hv8
      have hus : (p.create kNew F).used ≤ p.used := by rw [PS.used_create HLK1.out HFF.out]; exact HG.out.used
      have HAP := hid (append_q H8.out HE.out.s6 (nm := kNew) (k := F) HG.out.calm ((lk_pt _ _ _ _).trans (if_pos rfl)) _ (recsB [le8 u, b]) _ hb8 (fun k hk => .inl (Tk.bytes hk)) (by rw [HRL.out]; show _ ≤ p.room; rw [HG.out.room]; have := HRM.out; omega) (by show p.calls + 1 ≤ _; have := HP1C.out; omega))
      clear hf8 ho8 hb8 hus
      go_wp2_with fail
      refine HAP.out.mono ?_
      rintro e w9 ⟨rfl, h9, hf9⟩
      have H9 := hid h9; have HFT9 := hid (HFT8.out.trans (FT.of hf9 H8.out.f h9.f))
      clear h9 hf9 HAP HPUT
      go_wp2_with fail
      refine (sync_p H9.out HE.out.s6 (nm := kNew) (k := F) HG.out.calm ((lk_pt _ _ _ _).trans (if_pos rfl)) (by show p.calls + 1 + 1 ≤ _; have := HP1C.out; omega)).mono ?_
      rintro e w10 ⟨rfl, h10, hf10⟩
      have H10 := hid h10; have HFT10 := hid (HFT9.out.trans (FT.of hf10 H9.out.f h10.f))
      clear h10 hf10
      go_wp2_with fail
      refine (rename_p H10.out HE.out.s6 (nm := kNew) (k := F) HG.out.calm ((lk_pt _ _ _ _).trans (if_pos rfl)) kW0 (by decide +kernel) (by show p.calls + 1 + 1 + 1 ≤ _; have := HP1C.out; omega)).mono ?_
      rintro e w11 ⟨rfl, h11, hf11⟩
      have H11 := hid h11; have HFT11 := hid (HFT10.out.trans (FT.of hf11 H10.out.f h11.f))
      clear h11 hf11
      go_wp2_with fail
      refine (syncdir_p H11.out HE.out.s6 HG.out.calm (by show p.calls + 1 + 1 + 1 + 1 ≤ _; have := HP1C.out; omega)).mono ?_
      rintro e w12 ⟨rfl, h12, hf12⟩
      have H12 := hid h12; have HFT12 := hid (HFT11.out.trans (FT.of hf12 H11.out.f h12.f))
      clear h12 hf12
      go_wp2_with fail
      go_ret
      exact ⟨rfl, HFT12.out, F, _, H12.out, by rw [HTO.out]; exact HG.out.saved HFF.out kW0 (by decide +kernel) _⟩
    | some kx =>
      have HLN := hid (len_p H1.out HE.out.s6 (nm := kNew) HCM.out hk)
      have HG := hid (Gone.rm HCM.out HKS.out hk)
      have HKX := hid hk
      clear hk
      go_wp2_with fail
      refine HLN.out.mono ?_
      rintro e w3 ⟨rfl, hf3⟩
      have H3 := hid (H1.out.fr hf3); have HFT3 := hid (HFT1.out.trans (FT.of0 (w0 := w0) hf3))
      have c6 := HC6.out w3 H3.out.f
      clear hf3
      go_wp2_with fail
      refine (HI0.out w3 H3.out.f).mono ?_
      rintro e w4 ⟨rfl, rfl⟩
      clear c6
      go_wp2_with fail
      refine (remove_p H3.out HE.out.s6 (nm := kNew) HCM.out HKX.out (by have := HCL.out; omega)).mono ?_
      rintro e w4 ⟨rfl, h4, hf4⟩
      have H4 := hid h4; have HFT4 := hid (HFT3.out.trans (FT.of hf4 H3.out.f h4.f))
      clear h4 hf4
      generalize p.change ⟨⟨#[]⟩, kNew, none⟩ = p1 at *
      have hlk1 : lk p1.names kNew = none := by rw [HG.out.lk, if_pos rfl]
      have HLK1 := hid hlk1
      have HP1C := hid (show p1.calls ≤ 100001 ∧ p1.files ≤ 100000 from by have := HG.out.calls; have := HG.out.files; have := HCL.out; omega)
      clear hlk1
      go_wp2_with fail
      refine (create_p H4.out HE.out.s6 (nm := kNew) HG.out.calm (by decide +kernel) HLK1.out ⟨by have := HP1C.out; omega, by have := HP1C.out; omega⟩).mono ?_
      rintro e w5 ⟨rfl, F, hF, h5, hf5⟩
      have H5 := hid h5; have HFT5 := hid (HFT4.out.trans (FT.of hf5 H4.out.f h5.f)); have HFF := hid hF
      clear h5 hf5 hF
      go_wp2_with fail
      refine (HNUM.out w5).mono ?_
      rintro e w6 ⟨v6, rfl, ho6, hf6⟩
      obtain ⟨a6, c6', hv6, -⟩ := own_len ho6
      rw [show (le8 u).length = 8 from rfl] at hv6
      subst hv6
      have HFT6 := hid (HFT5.out.trans (FT.of0 (w0 := w0) hf6))
      have hfa := (Fr.refl (fun _ => False) w6).alloc (.cells #[.slice a6 8 c6', .slice ab b.length cb] 22)
      have hrow := heap_alloc_new w6 (.cells #[.slice a6 8 c6', .slice ab b.length cb] 22)
      have HFT7 := hid (HFT6.out.trans (FT.of0 (w0 := w0) hfa))
      have H7 := hid (H5.out.fr (hf6.trans' hfa))
      have hput := put_any (fun _ => False) (fun _ => True) (.slice none 0 0) (.slice (some ⟨w6.heap.size, 0, none⟩) 2 2) [] [le8 u, b] (w6.alloc (.cells #[.slice a6 8 c6', .slice ab b.length cb] 22)) (Bs.nil' _ _) ⟨_, 2, rfl, Nat.le_refl _, by simp [maxLen], fun k hk => by
        have hk2 : k = 0 ∨ k = 1 := by simp at hk; omega
        rcases hk2 with rfl | rfl
        · exact ⟨w6.heap.size, 0, .slice a6 8 c6', rfl, trivial, by rw [cell_of_row _ _ _ _ _ _ hrow]; rfl, ((OB.bs ho6).frame hfa fun _ _ => id).mono fun _ _ _ => trivial⟩
        · obtain ⟨D, hB⟩ := HB.out _ HFT7.out
          exact ⟨w6.heap.size, 0, .slice ab b.length cb, rfl, trivial, by rw [cell_of_row _ _ _ _ _ _ hrow]; rfl, hB.mono fun _ _ _ => trivial⟩⟩ (by rw [List.nil_append, HRL.out]; have := HBL.out; omega)
      rw [List.nil_append] at hput
      have HPUT := hid hput
      clear hput hrow hfa hf6 ho6
      go_wp2_with fail
      refine HPUT.out.mono ?_
      rintro e w8 ⟨v8, rfl, ho8, hf8⟩
      have H8 := hid (H7.out.fr hf8); have HFT8 := hid (HFT7.out.trans (FT.of0 (w0 := w0) hf8))
      have hb8 := ho8.bs2
      obtain ⟨a8, c8, hv8, -⟩ := own_len ho8
      subst hv8
      have hus : (p1.create kNew F).used ≤ p.used := by rw [PS.used_create HLK1.out HFF.out]; exact HG.out.used
      have HAP := hid (append_q H8.out HE.out.s6 (nm := kNew) (k := F) HG.out.calm ((lk_pt _ _ _ _).trans (if_pos rfl)) _ (recsB [le8 u, b]) _ hb8 (fun k hk => .inl (Tk.bytes hk)) (by rw [HRL.out]; show _ ≤ p1.room; rw [HG.out.room]; have := HRM.out; omega) (by show p1.calls + 1 ≤ _; have := HP1C.out; omega))
      clear hf8 ho8 hb8 hus
      go_wp2_with fail
      refine HAP.out.mono ?_
      rintro e w9 ⟨rfl, h9, hf9⟩
      have H9 := hid h9; have HFT9 := hid (HFT8.out.trans (FT.of hf9 H8.out.f h9.f))
      clear h9 hf9 HAP HPUT
      go_wp2_with fail
      refine (sync_p H9.out HE.out.s6 (nm := kNew) (k := F) HG.out.calm ((lk_pt _ _ _ _).trans (if_pos rfl)) (by show p1.calls + 1 + 1 ≤ _; have := HP1C.out; omega)).mono ?_
      rintro e w10 ⟨rfl, h10, hf10⟩
      have H10 := hid h10; have HFT10 := hid (HFT9.out.trans (FT.of hf10 H9.out.f h10.f))
      clear h10 hf10
      go_wp2_with fail
      refine (rename_p H10.out HE.out.s6 (nm := kNew) (k := F) HG.out.calm ((lk_pt _ _ _ _).trans (if_pos rfl)) kW0 (by decide +kernel) (by show p1.calls + 1 + 1 + 1 ≤ _; have := HP1C.out; omega)).mono ?_
      rintro e w11 ⟨rfl, h11, hf11⟩
      have H11 := hid h11; have HFT11 := hid (HFT10.out.trans (FT.of hf11 H10.out.f h11.f))
      clear h11 hf11
      go_wp2_with fail
      refine (syncdir_p H11.out HE.out.s6 HG.out.calm (by show p1.calls + 1 + 1 + 1 + 1 ≤ _; have := HP1C.out; omega)).mono ?_
      rintro e w12 ⟨rfl, h12, hf12⟩
      have H12 := hid h12; have HFT12 := hid (HFT11.out.trans (FT.of hf12 H11.out.f h12.f))
      clear h12 hf12
      go_wp2_with fail
      go_ret
      exact ⟨rfl, HFT12.out, F, _, H12.out, by rw [HTO.out]; exact HG.out.saved HFF.out kW0 (by decide +kernel) _⟩
  · have HTO := hid (show saveTo kW0 = kW1 by decide +kernel)
    cases hk : lk p.names kNew with
    | none =>
      have HLN := hid (len0_p H1.out HE.out.s6 (nm := kNew) HCM.out (by decide) hk)
      have z1 : errV pa 107 = .iface 168 (.pointer (some (pa 6))) := rfl
      rw [z1] at HLN
      have HG := hid (Gone.same HCM.out HKS.out hk)
      clear z1 hk
      go_wp2_with fail
      refine HLN.out.mono ?_
      rintro e w3 ⟨rfl, hf3⟩
      have H4 := hid (H1.out.fr hf3); have HFT4 := hid (HFT1.out.trans (FT.of0 (w0 := w0) hf3))
      have c6 := HC6.out w3 H4.out.f
      clear hf3
      go_wp2_with fail
      refine (HI7.out w3 H4.out.f).mono ?_
      rintro e w4 ⟨rfl, rfl⟩
      clear c6
      obtain ⟨p1, hp1⟩ : ∃ p1, p = p1 := ⟨_, rfl⟩
      subst hp1
      have hlk1 : lk p.names kNew = none := by rw [HG.out.lk, if_pos rfl]
      have HLK1 := hid hlk1
      have HP1C := hid (show p.calls ≤ 100001 ∧ p.files ≤ 100000 from by have := HG.out.calls; have := HG.out.files; have := HCL.out; omega)
      clear hlk1
      go_wp2_with fail
      refine (create_p H4.out HE.out.s6 (nm := kNew) HG.out.calm (by decide +kernel) HLK1.out ⟨by have := HP1C.out; omega, by have := HP1C.out; omega⟩).mono ?_
      rintro e w5 ⟨rfl, F, hF, h5, hf5⟩
      have H5 := hid h5; have HFT5 := hid (HFT4.out.trans (FT.of hf5 H4.out.f h5.f)); have HFF := hid hF
      clear h5 hf5 hF
      go_wp2_with fail
      refine (HNUM.out w5).mono ?_
      rintro e w6 ⟨v6, rfl, ho6, hf6⟩
      obtain ⟨a6, c6', hv6, -⟩ := own_len ho6
      rw [show (le8 u).length = 8 from rfl] at hv6
      subst hv6
      have HFT6 := hid (HFT5.out.trans (FT.of0 (w0 := w0) hf6))
      have hfa := (Fr.refl (fun _ => False) w6).alloc (.cells #[.slice a6 8 c6', .slice ab b.length cb] 22)
      have hrow := heap_alloc_new w6 (.cells #[.slice a6 8 c6', .slice ab b.length cb] 22)
      have HFT7 := hid (HFT6.out.trans (FT.of0 (w0 := w0) hfa))
      have H7 := hid (H5.out.fr (hf6.trans' hfa))
      have hput := put_any (fun _ => False) (fun _ => True) (.slice none 0 0) (.slice (some ⟨w6.heap.size, 0, none⟩) 2 2) [] [le8 u, b] (w6.alloc (.cells #[.slice a6 8 c6', .slice ab b.length cb] 22)) (Bs.nil' _ _) ⟨_, 2, rfl, Nat.le_refl _, by simp [maxLen], fun k hk => by
        have hk2 : k = 0 ∨ k = 1 := by simp at hk; omega
        rcases hk2 with rfl | rfl
        · exact ⟨w6.heap.size, 0, .slice a6 8 c6', rfl, trivial, by rw [cell_of_row _ _ _ _ _ _ hrow]; rfl, ((OB.bs ho6).frame hfa fun _ _ => id).mono fun _ _ _ => trivial⟩
        · obtain ⟨D, hB⟩ := HB.out _ HFT7.out
          exact ⟨w6.heap.size, 0, .slice ab b.length cb, rfl, trivial, by rw [cell_of_row _ _ _ _ _ _ hrow]; rfl, hB.mono fun _ _ _ => trivial⟩⟩ (by rw [List.nil_append, HRL.out]; have := HBL.out; omega)
      rw [List.nil_append] at hput
      have HPUT := hid hput
      clear hput hrow hfa hf6 ho6
      go_wp2_with fail
      refine HPUT.out.mono ?_
      rintro e w8 ⟨v8, rfl, ho8, hf8⟩
      have H8 := hid (H7.out.fr hf8); have HFT8 := hid (HFT7.out.trans (FT.of0 (w0 := w0) hf8))
      have hb8 := ho8.bs2
      obtain ⟨a8, c8, hv8, -⟩ := own_len ho8
      subst hv8
      have hus : (p.create kNew F).used ≤ p.used := by rw [PS.used_create HLK1.out HFF.out]; exact HG.out.used
      have HAP := hid (append_q H8.out HE.out.s6 (nm := kNew) (k := F) HG.out.calm ((lk_pt _ _ _ _).trans (if_pos rfl)) _ (recsB [le8 u, b]) _ hb8 (fun k hk => .inl (Tk.bytes hk)) (by rw [HRL.out]; show _ ≤ p.room; rw [HG.out.room]; have := HRM.out; omega) (by show p.calls + 1 ≤ _; have := HP1C.out; omega))
      clear hf8 ho8 hb8 hus
      go_wp2_with fail
      refine HAP.out.mono ?_
      rintro e w9 ⟨rfl, h9, hf9⟩
      have H9 := hid h9; have HFT9 := hid (HFT8.out.trans (FT.of hf9 H8.out.f h9.f))
      clear h9 hf9 HAP HPUT
      go_wp2_with fail
      refine (sync_p H9.out HE.out.s6 (nm := kNew) (k := F) HG.out.calm ((lk_pt _ _ _ _).trans (if_pos rfl)) (by show p.calls + 1 + 1 ≤ _; have := HP1C.out; omega)).mono ?_
      rintro e w10 ⟨rfl, h10, hf10⟩
      have H10 := hid h10; have HFT10 := hid (HFT9.out.trans (FT.of hf10 H9.out.f h10.f))
      clear h10 hf10
      go_wp2_with fail
      refine (rename_p H10.out HE.out.s6 (nm := kNew) (k := F) HG.out.calm ((lk_pt _ _ _ _).trans (if_pos rfl)) kW1 (by decide +kernel) (by show p.calls + 1 + 1 + 1 ≤ _; have := HP1C.out; omega)).mono ?_
      rintro e w11 ⟨rfl, h11, hf11⟩
      have H11 := hid h11; have HFT11 := hid (HFT10.out.trans (FT.of hf11 H10.out.f h11.f))
      clear h11 hf11
      go_wp2_with fail
      refine (syncdir_p H11.out HE.out.s6 HG.out.calm (by show p.calls + 1 + 1 + 1 + 1 ≤ _; have := HP1C.out; omega)).mono ?_
      rintro e w12 ⟨rfl, h12, hf12⟩
      have H12 := hid h12; have HFT12 := hid (HFT11.out.trans (FT.of hf12 H11.out.f h12.f))
      clear h12 hf12
      go_wp2_with fail
      go_ret
      exact ⟨rfl, HFT12.out, F, _, H12.out, by rw [HTO.out]; exact HG.out.saved HFF.out kW1 (by decide +kernel) _⟩
    | some kx =>
      have HLN := hid (len_p H1.out HE.out.s6 (nm := kNew) HCM.out hk)
      have HG := hid (Gone.rm HCM.out HKS.out hk)
      have HKX := hid hk
      clear hk
      go_wp2_with fail
      refine HLN.out.mono ?_
      rintro e w3 ⟨rfl, hf3⟩
      have H3 := hid (H1.out.fr hf3); have HFT3 := hid (HFT1.out.trans (FT.of0 (w0 := w0) hf3))
      have c6 := HC6.out w3 H3.out.f
      clear hf3
      go_wp2_with fail
      refine (HI0.out w3 H3.out.f).mono ?_
      rintro e w4 ⟨rfl, rfl⟩
      clear c6
      go_wp2_with fail
      refine (remove_p H3.out HE.out.s6 (nm := kNew) HCM.out HKX.out (by have := HCL.out; omega)).mono ?_
      rintro e w4 ⟨rfl, h4, hf4⟩
      have H4 := hid h4; have HFT4 := hid (HFT3.out.trans (FT.of hf4 H3.out.f h4.f))
      clear h4 hf4
      generalize p.change ⟨⟨#[]⟩, kNew, none⟩ = p1 at *
      have hlk1 : lk p1.names kNew = none := by rw [HG.out.lk, if_pos rfl]
      have HLK1 := hid hlk1
      have HP1C := hid (show p1.calls ≤ 100001 ∧ p1.files ≤ 100000 from by have := HG.out.calls; have := HG.out.files; have := HCL.out; omega)
      clear hlk1
      go_wp2_with fail
      refine (create_p H4.out HE.out.s6 (nm := kNew) HG.out.calm (by decide +kernel) HLK1.out ⟨by have := HP1C.out; omega, by have := HP1C.out; omega⟩).mono ?_
      rintro e w5 ⟨rfl, F, hF, h5, hf5⟩
      have H5 := hid h5; have HFT5 := hid (HFT4.out.trans (FT.of hf5 H4.out.f h5.f)); have HFF := hid hF
      clear h5 hf5 hF
      go_wp2_with fail
      refine (HNUM.out w5).mono ?_
      rintro e w6 ⟨v6, rfl, ho6, hf6⟩
      obtain ⟨a6, c6', hv6, -⟩ := own_len ho6
      rw [show (le8 u).length = 8 from rfl] at hv6
      subst hv6
      have HFT6 := hid (HFT5.out.trans (FT.of0 (w0 := w0) hf6))
      have hfa := (Fr.refl (fun _ => False) w6).alloc (.cells #[.slice a6 8 c6', .slice ab b.length cb] 22)
      have hrow := heap_alloc_new w6 (.cells #[.slice a6 8 c6', .slice ab b.length cb] 22)
      have HFT7 := hid (HFT6.out.trans (FT.of0 (w0 := w0) hfa))
      have H7 := hid (H5.out.fr (hf6.trans' hfa))
      have hput := put_any (fun _ => False) (fun _ => True) (.slice none 0 0) (.slice (some ⟨w6.heap.size, 0, none⟩) 2 2) [] [le8 u, b] (w6.alloc (.cells #[.slice a6 8 c6', .slice ab b.length cb] 22)) (Bs.nil' _ _) ⟨_, 2, rfl, Nat.le_refl _, by simp [maxLen], fun k hk => by
        have hk2 : k = 0 ∨ k = 1 := by simp at hk; omega
        rcases hk2 with rfl | rfl
        · exact ⟨w6.heap.size, 0, .slice a6 8 c6', rfl, trivial, by rw [cell_of_row _ _ _ _ _ _ hrow]; rfl, ((OB.bs ho6).frame hfa fun _ _ => id).mono fun _ _ _ => trivial⟩
        · obtain ⟨D, hB⟩ := HB.out _ HFT7.out
          exact ⟨w6.heap.size, 0, .slice ab b.length cb, rfl, trivial, by rw [cell_of_row _ _ _ _ _ _ hrow]; rfl, hB.mono fun _ _ _ => trivial⟩⟩ (by rw [List.nil_append, HRL.out]; have := HBL.out; omega)
      rw [List.nil_append] at hput
      have HPUT := hid hput
      clear hput hrow hfa hf6 ho6
      go_wp2_with fail
      refine HPUT.out.mono ?_
      rintro e w8 ⟨v8, rfl, ho8, hf8⟩
      have H8 := hid (H7.out.fr hf8); have HFT8 := hid (HFT7.out.trans (FT.of0 (w0 := w0) hf8))
      have hb8 := ho8.bs2
      obtain ⟨a8, c8, hv8, -⟩ := own_len ho8
      subst hv8
      have hus : (p1.create kNew F).used ≤ p.used := by rw [PS.used_create HLK1.out HFF.out]; exact HG.out.used
      have HAP := hid (append_q H8.out HE.out.s6 (nm := kNew) (k := F) HG.out.calm ((lk_pt _ _ _ _).trans (if_pos rfl)) _ (recsB [le8 u, b]) _ hb8 (fun k hk => .inl (Tk.bytes hk)) (by rw [HRL.out]; show _ ≤ p1.room; rw [HG.out.room]; have := HRM.out; omega) (by show p1.calls + 1 ≤ _; have := HP1C.out; omega))
      clear hf8 ho8 hb8 hus
      go_wp2_with fail
      refine HAP.out.mono ?_
      rintro e w9 ⟨rfl, h9, hf9⟩
      have H9 := hid h9; have HFT9 := hid (HFT8.out.trans (FT.of hf9 H8.out.f h9.f))
      clear h9 hf9 HAP HPUT
      go_wp2_with fail
      refine (sync_p H9.out HE.out.s6 (nm := kNew) (k := F) HG.out.calm ((lk_pt _ _ _ _).trans (if_pos rfl)) (by show p1.calls + 1 + 1 ≤ _; have := HP1C.out; omega)).mono ?_
      rintro e w10 ⟨rfl, h10, hf10⟩
      have H10 := hid h10; have HFT10 := hid (HFT9.out.trans (FT.of hf10 H9.out.f h10.f))
      clear h10 hf10
      go_wp2_with fail
      refine (rename_p H10.out HE.out.s6 (nm := kNew) (k := F) HG.out.calm ((lk_pt _ _ _ _).trans (if_pos rfl)) kW1 (by decide +kernel) (by show p1.calls + 1 + 1 + 1 ≤ _; have := HP1C.out; omega)).mono ?_
      rintro e w11 ⟨rfl, h11, hf11⟩
      have H11 := hid h11; have HFT11 := hid (HFT10.out.trans (FT.of hf11 H10.out.f h11.f))
      clear h11 hf11
      go_wp2_with fail
      refine (syncdir_p H11.out HE.out.s6 HG.out.calm (by show p1.calls + 1 + 1 + 1 + 1 ≤ _; have := HP1C.out; omega)).mono ?_
      rintro e w12 ⟨rfl, h12, hf12⟩
      have H12 := hid h12; have HFT12 := hid (HFT11.out.trans (FT.of hf12 H11.out.f h12.f))
      clear h12 hf12
      go_wp2_with fail
      go_ret
      exact ⟨rfl, HFT12.out, F, _, H12.out, by rw [HTO.out]; exact HG.out.saved HFF.out kW1 (by decide +kernel) _⟩
  · have HTO := hid (show saveTo kW1 = kW0 by decide +kernel)
    cases hk : lk p.names kNew with
    | none =>
      have HLN := hid (len0_p H1.out HE.out.s6 (nm := kNew) HCM.out (by decide) hk)
      have z1 : errV pa 107 = .iface 168 (.pointer (some (pa 6))) := rfl
      rw [z1] at HLN
      have HG := hid (Gone.same HCM.out HKS.out hk)
      clear z1 hk
      go_wp2_with fail
      refine HLN.out.mono ?_
      rintro e w3 ⟨rfl, hf3⟩
      have H4 := hid (H1.out.fr hf3); have HFT4 := hid (HFT1.out.trans (FT.of0 (w0 := w0) hf3))
      have c6 := HC6.out w3 H4.out.f
      clear hf3
      go_wp2_with fail
      refine (HI7.out w3 H4.out.f).mono ?_
      rintro e w4 ⟨rfl, rfl⟩
      clear c6
      obtain ⟨p1, hp1⟩ : ∃ p1, p = p1 := ⟨_, rfl⟩
      subst hp1
      have hlk1 : lk p.names kNew = none := by rw [HG.out.lk, if_pos rfl]
      have HLK1 := hid hlk1
      have HP1C := hid (show p.calls ≤ 100001 ∧ p.files ≤ 100000 from by have := HG.out.calls; have := HG.out.files; have := HCL.out; omega)
      clear hlk1
      go_wp2_with fail
      refine (create_p H4.out HE.out.s6 (nm := kNew) HG.out.calm (by decide +kernel) HLK1.out ⟨by have := HP1C.out; omega, by have := HP1C.out; omega⟩).mono ?_
      rintro e w5 ⟨rfl, F, hF, h5, hf5⟩
      have H5 := hid h5; have HFT5 := hid (HFT4.out.trans (FT.of hf5 H4.out.f h5.f)); have HFF := hid hF
      clear h5 hf5 hF
      go_wp2_with fail
      refine (HNUM.out w5).mono ?_
      rintro e w6 ⟨v6, rfl, ho6, hf6⟩
      obtain ⟨a6, c6', hv6, -⟩ := own_len ho6
      rw [show (le8 u).length = 8 from rfl] at hv6
      subst hv6
      have HFT6 := hid (HFT5.out.trans (FT.of0 (w0 := w0) hf6))
      have hfa := (Fr.refl (fun _ => False) w6).alloc (.cells #[.slice a6 8 c6', .slice ab b.length cb] 22)
      have hrow := heap_alloc_new w6 (.cells #[.slice a6 8 c6', .slice ab b.length cb] 22)
      have HFT7 := hid (HFT6.out.trans (FT.of0 (w0 := w0) hfa))
      have H7 := hid (H5.out.fr (hf6.trans' hfa))
      have hput := put_any (fun _ => False) (fun _ => True) (.slice none 0 0) (.slice (some ⟨w6.heap.size, 0, none⟩) 2 2) [] [le8 u, b] (w6.alloc (.cells #[.slice a6 8 c6', .slice ab b.length cb] 22)) (Bs.nil' _ _) ⟨_, 2, rfl, Nat.le_refl _, by simp [maxLen], fun k hk => by
        have hk2 : k = 0 ∨ k = 1 := by simp at hk; omega
        rcases hk2 with rfl | rfl
        · exact ⟨w6.heap.size, 0, .slice a6 8 c6', rfl, trivial, by rw [cell_of_row _ _ _ _ _ _ hrow]; rfl, ((OB.bs ho6).frame hfa fun _ _ => id).mono fun _ _ _ => trivial⟩
        · obtain ⟨D, hB⟩ := HB.out _ HFT7.out
          exact ⟨w6.heap.size, 0, .slice ab b.length cb, rfl, trivial, by rw [cell_of_row _ _ _ _ _ _ hrow]; rfl, hB.mono fun _ _ _ => trivial⟩⟩ (by rw [List.nil_append, HRL.out]; have := HBL.out; omega)
      rw [List.nil_append] at hput
      have HPUT := hid hput
      clear hput hrow hfa hf6 ho6
      go_wp2_with fail
      refine HPUT.out.mono ?_
      rintro e w8 ⟨v8, rfl, ho8, hf8⟩
      have H8 := hid (H7.out.fr hf8); have HFT8 := hid (HFT7.out.trans (FT.of0 (w0 := w0) hf8))
      have hb8 := ho8.bs2
      obtain ⟨a8, c8, hv8, -⟩ := own_len ho8
      subst hv8
      have hus : (p.create kNew F).used ≤ p.used := by rw [PS.used_create HLK1.out HFF.out]; exact HG.out.used
      have HAP := hid (append_q H8.out HE.out.s6 (nm := kNew) (k := F) HG.out.calm ((lk_pt _ _ _ _).trans (if_pos rfl)) _ (recsB [le8 u, b]) _ hb8 (fun k hk => .inl (Tk.bytes hk)) (by rw [HRL.out]; show _ ≤ p.room; rw [HG.out.room]; have := HRM.out; omega) (by show p.calls + 1 ≤ _; have := HP1C.out; omega))
      clear hf8 ho8 hb8 hus
      go_wp2_with fail
      refine HAP.out.mono ?_
      rintro e w9 ⟨rfl, h9, hf9⟩
      have H9 := hid h9; have HFT9 := hid (HFT8.out.trans (FT.of hf9 H8.out.f h9.f))
      clear h9 hf9 HAP HPUT
      go_wp2_with fail
      refine (sync_p H9.out HE.out.s6 (nm := kNew) (k := F) HG.out.calm ((lk_pt _ _ _ _).trans (if_pos rfl)) (by show p.calls + 1 + 1 ≤ _; have := HP1C.out; omega)).mono ?_
      rintro e w10 ⟨rfl, h10, hf10⟩
      have H10 := hid h10; have HFT10 := hid (HFT9.out.trans (FT.of hf10 H9.out.f h10.f))
      clear h10 hf10
      go_wp2_with fail
      refine (rename_p H10.out HE.out.s6 (nm := kNew) (k := F) HG.out.calm ((lk_pt _ _ _ _).trans (if_pos rfl)) kW0 (by decide +kernel) (by show p.calls + 1 + 1 + 1 ≤ _; have := HP1C.out; omega)).mono ?_
      rintro e w11 ⟨rfl, h11, hf11⟩
      have H11 := hid h11; have HFT11 := hid (HFT10.out.trans (FT.of hf11 H10.out.f h11.f))
      clear h11 hf11
      go_wp2_with fail
      refine (syncdir_p H11.out HE.out.s6 HG.out.calm (by show p.calls + 1 + 1 + 1 + 1 ≤ _; have := HP1C.out; omega)).mono ?_
      rintro e w12 ⟨rfl, h12, hf12⟩
      have H12 := hid h12; have HFT12 := hid (HFT11.out.trans (FT.of hf12 H11.out.f h12.f))
      clear h12 hf12
      go_wp2_with fail
      go_ret
      exact ⟨rfl, HFT12.out, F, _, H12.out, by rw [HTO.out]; exact HG.out.saved HFF.out kW0 (by decide +kernel) _⟩
    | some kx =>
      have HLN := hid (len_p H1.out HE.out.s6 (nm := kNew) HCM.out hk)
      have HG := hid (Gone.rm HCM.out HKS.out hk)
      have HKX := hid hk
      clear hk
      go_wp2_with fail
      refine HLN.out.mono ?_
      rintro e w3 ⟨rfl, hf3⟩
      have H3 := hid (H1.out.fr hf3); have HFT3 := hid (HFT1.out.trans (FT.of0 (w0 := w0) hf3))
      have c6 := HC6.out w3 H3.out.f
      clear hf3
      go_wp2_with fail
      refine (HI0.out w3 H3.out.f).mono ?_
      rintro e w4 ⟨rfl, rfl⟩
      clear c6
      go_wp2_with fail
      refine (remove_p H3.out HE.out.s6 (nm := kNew) HCM.out HKX.out (by have := HCL.out; omega)).mono ?_
      rintro e w4 ⟨rfl, h4, hf4⟩
      have H4 := hid h4; have HFT4 := hid (HFT3.out.trans (FT.of hf4 H3.out.f h4.f))
      clear h4 hf4
      generalize p.change ⟨⟨#[]⟩, kNew, none⟩ = p1 at *
      have hlk1 : lk p1.names kNew = none := by rw [HG.out.lk, if_pos rfl]
      have HLK1 := hid hlk1
      have HP1C := hid (show p1.calls ≤ 100001 ∧ p1.files ≤ 100000 from by have := HG.out.calls; have := HG.out.files; have := HCL.out; omega)
      clear hlk1
      go_wp2_with fail
      refine (create_p H4.out HE.out.s6 (nm := kNew) HG.out.calm (by decide +kernel) HLK1.out ⟨by have := HP1C.out; omega, by have := HP1C.out; omega⟩).mono ?_
      rintro e w5 ⟨rfl, F, hF, h5, hf5⟩
      have H5 := hid h5; have HFT5 := hid (HFT4.out.trans (FT.of hf5 H4.out.f h5.f)); have HFF := hid hF
      clear h5 hf5 hF
      go_wp2_with fail
      refine (HNUM.out w5).mono ?_
      rintro e w6 ⟨v6, rfl, ho6, hf6⟩
      obtain ⟨a6, c6', hv6, -⟩ := own_len ho6
      rw [show (le8 u).length = 8 from rfl] at hv6
      subst hv6
      have HFT6 := hid (HFT5.out.trans (FT.of0 (w0 := w0) hf6))
      have hfa := (Fr.refl (fun _ => False) w6).alloc (.cells #[.slice a6 8 c6', .slice ab b.length cb] 22)
      have hrow := heap_alloc_new w6 (.cells #[.slice a6 8 c6', .slice ab b.length cb] 22)
      have HFT7 := hid (HFT6.out.trans (FT.of0 (w0 := w0) hfa))
      have H7 := hid (H5.out.fr (hf6.trans' hfa))
      have hput := put_any (fun _ => False) (fun _ => True) (.slice none 0 0) (.slice (some ⟨w6.heap.size, 0, none⟩) 2 2) [] [le8 u, b] (w6.alloc (.cells #[.slice a6 8 c6', .slice ab b.length cb] 22)) (Bs.nil' _ _) ⟨_, 2, rfl, Nat.le_refl _, by simp [maxLen], fun k hk => by
        have hk2 : k = 0 ∨ k = 1 := by simp at hk; omega
        rcases hk2 with rfl | rfl
        · exact ⟨w6.heap.size, 0, .slice a6 8 c6', rfl, trivial, by rw [cell_of_row _ _ _ _ _ _ hrow]; rfl, ((OB.bs ho6).frame hfa fun _ _ => id).mono fun _ _ _ => trivial⟩
        · obtain ⟨D, hB⟩ := HB.out _ HFT7.out
          exact ⟨w6.heap.size, 0, .slice ab b.length cb, rfl, trivial, by rw [cell_of_row _ _ _ _ _ _ hrow]; rfl, hB.mono fun _ _ _ => trivial⟩⟩ (by rw [List.nil_append, HRL.out]; have := HBL.out; omega)
      rw [List.nil_append] at hput
      have HPUT := hid hput
      clear hput hrow hfa hf6 ho6
      go_wp2_with fail
      refine HPUT.out.mono ?_
      rintro e w8 ⟨v8, rfl, ho8, hf8⟩
      have H8 := hid (H7.out.fr hf8); have HFT8 := hid (HFT7.out.trans (FT.of0 (w0 := w0) hf8))
      have hb8 := ho8.bs2
      obtain ⟨a8, c8, hv8, -⟩ := own_len ho8
      subst hv8
      have hus : (p1.create kNew F).used ≤ p.used := by rw [PS.used_create HLK1.out HFF.out]; exact HG.out.used
      have HAP := hid (append_q H8.out HE.out.s6 (nm := kNew) (k := F) HG.out.calm ((lk_pt _ _ _ _).trans (if_pos rfl)) _ (recsB [le8 u, b]) _ hb8 (fun k hk => .inl (Tk.bytes hk)) (by rw [HRL.out]; show _ ≤ p1.room; rw [HG.out.room]; have := HRM.out; omega) (by show p1.calls + 1 ≤ _; have := HP1C.out; omega))
      clear hf8 ho8 hb8 hus
      go_wp2_with fail
      refine HAP.out.mono ?_
      rintro e w9 ⟨rfl, h9, hf9⟩
      have H9 := hid h9; have HFT9 := hid (HFT8.out.trans (FT.of hf9 H8.out.f h9.f))
      clear h9 hf9 HAP HPUT
      go_wp2_with fail
      refine (sync_p H9.out HE.out.s6 (nm := kNew) (k := F) HG.out.calm ((lk_pt _ _ _ _).trans (if_pos rfl)) (by show p1.calls + 1 + 1 ≤ _; have := HP1C.out; omega)).mono ?_
      rintro e w10 ⟨rfl, h10, hf10⟩
      have H10 := hid h10; have HFT10 := hid (HFT9.out.trans (FT.of hf10 H9.out.f h10.f))
      clear h10 hf10
      go_wp2_with fail
      refine (rename_p H10.out HE.out.s6 (nm := kNew) (k := F) HG.out.calm ((lk_pt _ _ _ _).trans (if_pos rfl)) kW0 (by decide +kernel) (by show p1.calls + 1 + 1 + 1 ≤ _; have := HP1C.out; omega)).mono ?_
      rintro e w11 ⟨rfl, h11, hf11⟩
      have H11 := hid h11; have HFT11 := hid (HFT10.out.trans (FT.of hf11 H10.out.f h11.f))
      clear h11 hf11
      go_wp2_with fail
      refine (syncdir_p H11.out HE.out.s6 HG.out.calm (by show p1.calls + 1 + 1 + 1 + 1 ≤ _; have := HP1C.out; omega)).mono ?_
      rintro e w12 ⟨rfl, h12, hf12⟩
      have H12 := hid h12; have HFT12 := hid (HFT11.out.trans (FT.of hf12 H11.out.f h12.f))
      clear h12 hf12
      go_wp2_with fail
      go_ret
      exact ⟨rfl, HFT12.out, F, _, H12.out, by rw [HTO.out]; exact HG.out.saved HFF.out kW0 (by decide +kernel) _⟩
end Go.Proofs.YtpceckmjoicdlaaDoor
