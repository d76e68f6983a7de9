/- Package keep: Save on a disk whose power may go. -/
import Derived.Test.YtpceckmjoicdlaaDoorKHoldP
namespace Go.Proofs.YtpceckmjoicdlaaDoor
open Go.RowKit
variable {w0 w w' : World} {pa : Nat → Addr} {nm : ByteArray} {X : Nat}

theorem len_u1 {p : PS} (h : PW w0 w X p) (hS : S6 w0.heap.size w0 pa) (hd : p.down = false) {k : Nat} (hl : lk p.names nm = some k) :
    Calls Tryd.prog 21 #[.pointer (some ⟨X, 0, none⟩), .string nm] w fun e w' => e = .returned (.tuple #[.int .i64 (p.fs k).by_.length, .nilIface]) ∧ Fr (fun _ => False) w w' := by
  obtain ⟨s, h, rfl, rfl⟩ := h
  have hm := (lk_mem h.d.names.2).1 hl
  refine (len_any pa (h.s6 hS) h.d nm (by have := h.d.sz.1 _ hm; dsimp only at this; unfold maxLen; omega)).mono fun _ _ ⟨e, h2⟩ => ?_
  rw [(up_file hd hl).1, show lenS s nm = (s.fs k).by_.length by unfold lenS; rw [(up_file hd hl).2]] at e
  exact ⟨e, h2⟩
theorem begE_down {q : PS} (h : q.begE ≠ 0) : q.beg.down = true := by
  unfold PS.begE at h
  unfold PS.beg
  by_cases hd : q.down = true
  · rw [if_pos hd]; exact hd
  · rw [if_neg hd] at h ⊢
    by_cases ha : q.armed = 1
    · rw [if_pos (by omega)]
      simp [ha]
    · rw [if_neg ha] at h
      exact absurd rfl h
theorem begE_up {q : PS} (h : q.begE = 0) : q.beg.down = false := by
  unfold PS.begE at h
  unfold PS.beg
  by_cases hd : q.down = true
  · rw [if_pos hd] at h; cases h
  · rw [if_neg hd] at h ⊢
    by_cases ha : q.armed = 1
    · rw [if_pos ha] at h; cases h
    · split
      · simp [ha]
      · simpa using hd
theorem MS.up {p q : PS} {nt : ByteArray} {bytes : List UInt8} {j : Nat} (h : MS p q nt bytes j) (hj : j ≤ 6) : MS p q nt bytes 6 := ⟨h.room, h.safe, h.fs, h.len, by have := h.cl; omega⟩
theorem MS.cl6 {p q : PS} {nt : ByteArray} {bytes : List UInt8} {j : Nat} (h : MS p q nt bytes j) (hj : j ≤ 6) : q.calls ≤ p.calls + 6 ∧ q.files ≤ p.files + 6 := by have := h.cl; omega
theorem MS.sd6 {p q : PS} {nt : ByteArray} {bytes : List UInt8} (h : MS p q nt bytes 5) : q.beg.syncDir.calls ≤ p.calls + 6 ∧ q.beg.syncDir.files ≤ p.files + 6 := by
  obtain ⟨-, -, -, -, -, e6, e7⟩ := q.beg_same
  show q.beg.calls + 1 ≤ _ ∧ q.beg.files ≤ _
  have := h.cl
  omega
theorem MS0.up1 {p q : PS} (h : MS0 p q 0) : MS0 p q 1 := ⟨h.kept, h.room, h.nmk, h.safe, h.fs, h.len, by have := h.cl; omega⟩
theorem rm_none (q : PS) : lk (q.beg.change ⟨⟨#[]⟩, kNew, none⟩).names kNew = none := by
  show lk (applyM q.beg.names ⟨⟨#[]⟩, kNew, none⟩) kNew = none
  unfold applyM
  dsimp only
  rw [if_neg kNew_em, lk_dl, if_pos rfl]
/-- With a fresh file. -/
structure St (p q : PS) (j F : Nat) (l : List UInt8) (sy : Nat) : Prop where
  m : MS0 p q j
  nk : lk q.names kNew = some F
  f : ∃ n, q.fs F = ⟨n, l, sy⟩
  old : ∀ t k, t ≠ kNew → lk p.names t = some k → k ≠ F
theorem MS0.cr {p q : PS} {j F : Nat} (h : MS0 p q j) (hk : Ks q.names) (hF : ∀ k, PFl q k → k ≠ F) : St p (q.beg.create kNew F) (j + 1) F [] 0 :=
  ⟨h.beg.create (h.old hk hF), (lk_pt _ _ _ _).trans (if_pos rfl), ⟨_, upd_same _ _ _⟩, h.old hk hF⟩
theorem St.app {p q : PS} {j F : Nat} (h : St p q j F [] 0) (m : List UInt8) (hm : m.length ≤ 224) : St p (q.beg.put F ⟨(q.fs F).id, (q.fs F).by_ ++ m, (q.fs F).sy⟩) (j + 1) F m 0 := by
  obtain ⟨n, hf⟩ := h.f
  rw [hf]
  obtain ⟨-, -, e3, -⟩ := q.beg_same
  refine ⟨h.m.beg.put h.old _ ⟨hm, Nat.zero_le _⟩, by show lk q.beg.names kNew = _; rw [e3]; exact h.nk, ⟨_, upd_same _ _ _⟩, h.old⟩
theorem St.syn {p q : PS} {j F : Nat} {m : List UInt8} (h : St p q j F m 0) (hm : m.length ≤ 224) : St p (q.beg.put F ⟨(q.fs F).id, (q.fs F).by_, (q.fs F).by_.length⟩) (j + 1) F m m.length := by
  obtain ⟨n, hf⟩ := h.f
  rw [hf]
  obtain ⟨-, -, e3, -⟩ := q.beg_same
  refine ⟨h.m.beg.put h.old _ ⟨hm, Nat.le_refl _⟩, by show lk q.beg.names kNew = _; rw [e3]; exact h.nk, ⟨_, upd_same _ _ _⟩, h.old⟩
theorem St.ren {p q : PS} {j F : Nat} {m : List UInt8} (h : St p q j F m m.length) {nt : ByteArray} (hnt : nt = kW0 ∨ nt = kW1) : MS p (q.beg.change (renC kNew nt F)) nt m (j + 1) ∧ Put p (q.beg.change (renC kNew nt F)) nt m (q.beg.change (renC kNew nt F)).names := by
  obtain ⟨n, hf⟩ := h.f
  obtain ⟨-, -, -, -, e5, -⟩ := q.beg_same
  exact h.m.beg.ren (n := n) (by rw [e5]; exact hf) hnt
set_option maxRecDepth 100000 in
set_option maxHeartbeats 25600000 in
/-- Save. -/
theorem save_g {p : PS} {ar : Int} (h : PW w0 w X (p.arm ar)) (hE : Sent17 w0 pa) (hR : RI p) (hcl : p.calls ≤ 100000 ∧ p.files ≤ 100000) (vb : Value) (b : List UInt8) (hb : KB w0 w vb b) (hbl : b.length ≤ 200) (u : Nat) (hu : IntKind.u64.wrap (IntKind.i64.wrap ((newP (gst p kW0) (gst p kW1)).2.2.1 + 1)) = (u : Int)) (hub : u < 18446744073709551616) :
    Calls Tryd.prog 8 #[.pointer (some ⟨X, 0, none⟩), vb] w fun e w' => FT w0 w w' ∧ ∃ q, PW w0 w' X q ∧ (q.calls ≤ p.calls + 6 ∧ q.files ≤ p.files + 6) ∧
      ((e = .returned .nilIface ∧ q.down = false ∧ RI (q.arm 0) ∧ Turned p (q.arm 0) (saveTo (newP (gst p kW0) (gst p kW1)).1) (recsB [le8 u, b])) ∨
       (e = .returned (errV pa 110) ∧ q.down = true ∧ MS p q (saveTo (newP (gst p kW0) (gst p kW1)).1) (recsB [le8 u, b]) 6)) := by
  have HDN := hid hR.calm.1
  have hnw := newest_any h hE hR.calm.1
  have HNW := hid (show Calls Tryd.prog 23 #[.pointer (some ⟨X, 0, none⟩)] w fun e w' => Fr (fun _ => False) w w' ∧ ∃ v, e = .returned (.tuple #[.string (newP (gst p kW0) (gst p kW1)).1, v, .int .i64 (newP (gst p kW0) (gst p kW1)).2.2.1, errV pa (newP (gst p kW0) (gst p kW1)).2.2.2]) ∧ OB w.heap.size w' v (newP (gst p kW0) (gst p kW1)).2.1 from hnw)
  clear hnw
  have hcode := newP_code (gst p kW0) (gst p kW1)
  have hname := newP_name (gst p kW0) (gst p kW1)
  have HIS := hid (fun (W2 : World) (hf : Fr (fun _ => False) w0 W2) (m : Nat) (hm : ErrNo m) (j : Nat) (hj : 101 ≤ j ∧ j ≤ 117) => eis_any (hE.frame hf) m hm j hj)
  have HC6 := hid (fun (W2 : World) (hf : Fr (fun _ => False) w0 W2) => (show W2.cell? ⟨2, 0, none⟩ = some (.iface 168 (.pointer (some (pa 6)))) from (hE.frame hf).s 6 (by decide)))
  have HC9 := hid (fun (W2 : World) (hf : Fr (fun _ => False) w0 W2) => (show W2.cell? ⟨1, 0, none⟩ = some (.iface 168 (.pointer (some (pa 9)))) from (hE.frame hf).s 9 (by decide)))
  have hrl : (recsB [le8 u, b]).length = b.length + 24 := by simp [recsB, recB_len, le8]; omega
  generalize newP (gst p kW0) (gst p kW1) = np at *
  obtain ⟨nname, nb, nn, ncode⟩ := np
  dsimp only at HNW hcode hname hu ⊢
  have HNO := hid (fun (W2 : World) (hf : Fr (fun _ => False) w0 W2) => (show Calls Tryd.prog 24 #[errV pa ncode, .iface 168 (.pointer (some (pa 9)))] W2 fun e w' => e = .returned (.bool false) ∧ W2 = w' from by
    have h1 := HIS.out W2 hf ncode (by unfold ErrNo; omega) 110 (by omega)
    rw [decide_eq_false (by omega)] at h1
    exact h1))
  have HI7 := hid (fun (W2 : World) (hf : Fr (fun _ => False) w0 W2) => (show Calls Tryd.prog 24 #[.iface 168 (.pointer (some (pa 6))), .iface 168 (.pointer (some (pa 6)))] W2 fun e w' => e = .returned (.bool true) ∧ W2 = w' from HIS.out W2 hf 107 (by unfold ErrNo; omega) 107 (by omega)))
  have HI0 := hid (fun (W2 : World) (hf : Fr (fun _ => False) w0 W2) => (show Calls Tryd.prog 24 #[.nilIface, .iface 168 (.pointer (some (pa 6)))] W2 fun e w' => e = .returned (.bool false) ∧ W2 = w' from HIS.out W2 hf 0 (by unfold ErrNo; omega) 107 (by omega)))
  obtain ⟨ab, cb, hvb⟩ : ∃ a c, vb = .slice a b.length c := by
    obtain ⟨D, hB⟩ := hb w (Fr.refl _ _)
    obtain ⟨a, c, e, -⟩ := hB
    exact ⟨a, c, e⟩
  subst hvb
  have HP := hid h; have HE := hid hE; have HRI := hid hR; have HCL := hid hcl; have HB := hid hb; have HBL := hid hbl; have HU := hid hu; have HUB := hid hub; have HRL := hid hrl
  clear h hE hR hcl hb hbl hcode hu hub HIS hrl
  have hun : ∀ W2 : World, Calls Tryd.prog 27 #[.int .i64 (IntKind.i64.wrap (nn + 1))] W2 fun e w' => ∃ v', e = .returned v' ∧ OB W2.heap.size w' v' (le8 u) ∧ Fr (fun _ => False) W2 w' := fun W2 => knumber_any (IntKind.i64.wrap (nn + 1)) u (by rw [IntKind.wrap_i64]; omega) HU.out HUB.out W2
  have HNUM := hid hun
  clear hun
  obtain ⟨n1, hn1⟩ : ∃ n1 : Int, IntKind.i64.wrap (nn + 1) = n1 := ⟨_, rfl⟩
  rw [hn1] at HNUM
  go_enter Tryd.func8, Tryd.ntmps8
  go_wp2_with fail
  refine HNW.out.mono ?_
  rintro e w1 ⟨hf1, v1, rfl, ho1⟩
  have H1 := hid (HP.out.fr hf1); have HFT1 := hid (FT.of0 (w0 := w0) hf1)
  obtain ⟨a1, c1, hv1, -⟩ := own_len ho1
  subst hv1
  have c9 := HC9.out w1 H1.out.f
  clear hf1 ho1
  generalize errV pa ncode = ev at *
  go_wp2_with fail
  refine (HNO.out w1 H1.out.f).mono ?_
  rintro e w2 ⟨rfl, rfl⟩
  clear c9
  rcases hname with rfl | rfl | rfl
  · have HTO := hid (show saveTo (⟨#[]⟩ : ByteArray) = kW0 by decide +kernel)
    cases hk : lk p.names kNew with
    | none =>
      have HLN := hid (len_u0 H1.out HE.out.s6 HDN.out (nm := kNew) (by decide) hk)
      have z1 : errV pa 107 = .iface 168 (.pointer (some (pa 6))) := rfl
      rw [z1] at HLN
      have HN1x := hid (show lk (p.arm ar).names kNew = none from hk)
      clear z1 hk
      go_wp2_with fail
      refine HLN.out.mono ?_
      rintro e w3 ⟨rfl, hf3⟩
      have H4x := hid (H1.out.fr hf3); have HFT4 := hid (HFT1.out.trans (FT.of0 (w0 := w0) hf3))
      have c6 := HC6.out w3 H4x.out.f
      clear hf3
      go_wp2_with fail
      refine (HI7.out w3 H4x.out.f).mono ?_
      rintro e w4 ⟨rfl, rfl⟩
      clear c6
      have hq1 : ∃ q1, PW w0 w3 X q1 ∧ MS0 p q1 1 ∧ lk q1.names kNew = none := ⟨_, H4x.out, (MS0.start HRI.out ar).up1, HN1x.out⟩
      obtain ⟨q1, h4, hm1, hn1'⟩ := hq1
      have H4 := hid h4; have HM1 := hid hm1; have HN1 := hid hn1'
      clear h4 hm1 hn1' H4x HN1x
      have HP1C := hid (show q1.calls ≤ 1000000 ∧ q1.files ≤ 1000000 from by have := HM1.out.cl; have := HCL.out; omega)
      have HCR := hid (create_g H4.out HE.out.s6 (nm := kNew) (by decide +kernel) HN1.out HP1C.out)
      go_wp2_with fail
      refine HCR.out.mono ?_
      rintro e w5 ⟨rfl, hf5, h5a, h5b⟩
      have hnoq := PS.begE_no q1
      rcases hnoq with hb | hb
      rotate_left
      · have z9 : errV pa 110 = .iface 168 (.pointer (some (pa 9))) := rfl
        have HQ := hid (h5a (by rw [hb]; decide)); have HD := hid (begE_down (q := q1) (by rw [hb]; decide))
        rw [hb, z9]
        have HFTX := hid (HFT4.out.trans (FT.of hf5 H4.out.f HQ.out.f))
        have HMS := hid ((HM1.out.ms kW0 (recsB [le8 u, b])).beg)
        clear h5a h5b hf5 z9 hb
        go_wp2_with fail
        go_ret
        exact ⟨HFTX.out, _, HQ.out, HMS.out.cl6 (by decide), .inr ⟨rfl, HD.out, by rw [HTO.out]; exact HMS.out.up (by decide)⟩⟩
      have z0 : errV pa 0 = .nilIface := rfl
      have hk5 := h5b hb
      rw [hb, z0]
      clear h5a h5b z0 hb
      obtain ⟨F, hF, h5⟩ := hk5
      have hq2 : ∃ q2, PW w0 w5 X q2 ∧ St p q2 2 F [] 0 := ⟨_, h5, HM1.out.cr H4.out.ok.kn hF⟩
      obtain ⟨q2, h5, hs2⟩ := hq2
      have H5 := hid h5; have HFT5 := hid (HFT4.out.trans (FT.of hf5 H4.out.f h5.f)); have HS2 := hid hs2
      clear h5 hf5 hF hs2 HCR
      go_wp2_with fail
      refine (HNUM.out w5).mono ?_
      rintro e w6 ⟨v6, rfl, ho6, hf6⟩
      obtain ⟨a6, c6', hv6, -⟩ := own_len ho6
      rw [show (le8 u).length = 8 from rfl] at hv6
      subst hv6
      have HFT6 := hid (HFT5.out.trans (FT.of0 (w0 := w0) hf6))
      have hfa := (Fr.refl (fun _ => False) w6).alloc (.cells #[.slice a6 8 c6', .slice ab b.length cb] 22)
      have hrow := heap_alloc_new w6 (.cells #[.slice a6 8 c6', .slice ab b.length cb] 22)
      have HFT7 := hid (HFT6.out.trans (FT.of0 (w0 := w0) hfa))
      have H7 := hid (H5.out.fr (hf6.trans' hfa))
      have hput := put_any (fun _ => False) (fun _ => True) (.slice none 0 0) (.slice (some ⟨w6.heap.size, 0, none⟩) 2 2) [] [le8 u, b] (w6.alloc (.cells #[.slice a6 8 c6', .slice ab b.length cb] 22)) (Bs.nil' _ _) ⟨_, 2, rfl, Nat.le_refl _, by simp [maxLen], fun k hk => by
        have hk2 : k = 0 ∨ k = 1 := by simp at hk; omega
        rcases hk2 with rfl | rfl
        · exact ⟨w6.heap.size, 0, .slice a6 8 c6', rfl, trivial, by rw [cell_of_row _ _ _ _ _ _ hrow]; rfl, ((OB.bs ho6).frame hfa fun _ _ => id).mono fun _ _ _ => trivial⟩
        · obtain ⟨D, hB⟩ := HB.out _ HFT7.out
          exact ⟨w6.heap.size, 0, .slice ab b.length cb, rfl, trivial, by rw [cell_of_row _ _ _ _ _ _ hrow]; rfl, hB.mono fun _ _ _ => trivial⟩⟩ (by rw [List.nil_append, HRL.out]; have := HBL.out; omega)
      rw [List.nil_append] at hput
      have HPUT := hid hput
      clear hput hrow hfa hf6 ho6
      go_wp2_with fail
      refine HPUT.out.mono ?_
      rintro e w8 ⟨v8, rfl, ho8, hf8⟩
      have H8 := hid (H7.out.fr hf8); have HFT8 := hid (HFT7.out.trans (FT.of0 (w0 := w0) hf8))
      have hb8 := ho8.bs2
      obtain ⟨a8, c8, hv8, -⟩ := own_len ho8
      subst hv8
      have HAP := hid (append_g H8.out HE.out.s6 (nm := kNew) (k := F) HS2.out.nk _ (recsB [le8 u, b]) _ hb8 (fun k hk => .inl (Tk.bytes hk)) (by rw [HRL.out, HS2.out.m.room]; have := HS2.out.m.used HRI.out H8.out.ok.kn; have := HBL.out; omega) (by have := HS2.out.m.cl; have := HCL.out; omega))
      clear hf8 ho8 hb8 HPUT
      go_wp2_with fail
      refine HAP.out.mono ?_
      rintro e w9 ⟨rfl, hf9, h9a, h9b⟩
      have hnoq := PS.begE_no q2
      rcases hnoq with hb | hb
      rotate_left
      · have z9 : errV pa 110 = .iface 168 (.pointer (some (pa 9))) := rfl
        have HQ := hid (h9a (by rw [hb]; decide)); have HD := hid (begE_down (q := q2) (by rw [hb]; decide))
        rw [hb, z9]
        have HFTX := hid (HFT8.out.trans (FT.of hf9 H8.out.f HQ.out.f))
        have HMS := hid ((HS2.out.m.ms kW0 (recsB [le8 u, b])).beg)
        clear h9a h9b hf9 z9 hb
        go_wp2_with fail
        go_ret
        exact ⟨HFTX.out, _, HQ.out, HMS.out.cl6 (by decide), .inr ⟨rfl, HD.out, by rw [HTO.out]; exact HMS.out.up (by decide)⟩⟩
      have z0 : errV pa 0 = .nilIface := rfl
      have hk9 := h9b hb
      rw [hb, z0]
      clear h9a h9b z0 hb
      have hq3 : ∃ q3, PW w0 w9 X q3 ∧ St p q3 3 F (recsB [le8 u, b]) 0 := ⟨_, hk9, HS2.out.app _ (by rw [HRL.out]; have := HBL.out; omega)⟩
      obtain ⟨q3, h9, hs3⟩ := hq3
      have H9 := hid h9; have HFT9 := hid (HFT8.out.trans (FT.of hf9 H8.out.f h9.f)); have HS3 := hid hs3
      clear h9 hf9 HAP hs3 hk9
      have HSY := hid (sync_g H9.out HE.out.s6 (nm := kNew) (k := F) HS3.out.nk (by have := HS3.out.m.cl; have := HCL.out; omega))
      go_wp2_with fail
      refine HSY.out.mono ?_
      rintro e wx ⟨rfl, hfx, hxa, hxb⟩
      have hnoq := PS.begE_no q3
      rcases hnoq with hb | hb
      rotate_left
      · have z9 : errV pa 110 = .iface 168 (.pointer (some (pa 9))) := rfl
        have HQ := hid (hxa (by rw [hb]; decide)); have HD := hid (begE_down (q := q3) (by rw [hb]; decide))
        rw [hb, z9]
        have HFTX := hid (HFT9.out.trans (FT.of hfx H9.out.f HQ.out.f))
        have HMS := hid ((HS3.out.m.ms kW0 (recsB [le8 u, b])).beg)
        clear hxa hxb hfx z9 hb
        go_wp2_with fail
        go_ret
        exact ⟨HFTX.out, _, HQ.out, HMS.out.cl6 (by decide), .inr ⟨rfl, HD.out, by rw [HTO.out]; exact HMS.out.up (by decide)⟩⟩
      have z0 : errV pa 0 = .nilIface := rfl
      have hkx := hxb hb
      rw [hb, z0]
      clear hxa hxb z0 hb
      have hq4 : ∃ q4, PW w0 wx X q4 ∧ St p q4 4 F (recsB [le8 u, b]) (recsB [le8 u, b]).length := ⟨_, hkx, HS3.out.syn (by rw [HRL.out]; have := HBL.out; omega)⟩
      obtain ⟨q4, hx, hs4⟩ := hq4
      have HX := hid hx; have HFTX := hid (HFT9.out.trans (FT.of hfx H9.out.f hx.f)); have HS4 := hid hs4
      clear hx hfx HSY hs4 hkx
      have HRN := hid (rename_g HX.out HE.out.s6 (nm := kNew) (k := F) HS4.out.nk kW0 (by decide +kernel) (by have := HS4.out.m.cl; have := HCL.out; omega))
      go_wp2_with fail
      refine HRN.out.mono ?_
      rintro e wy ⟨rfl, hfy, hya, hyb⟩
      have hnoq := PS.begE_no q4
      rcases hnoq with hb | hb
      rotate_left
      · have z9 : errV pa 110 = .iface 168 (.pointer (some (pa 9))) := rfl
        have HQ := hid (hya (by rw [hb]; decide)); have HD := hid (begE_down (q := q4) (by rw [hb]; decide))
        rw [hb, z9]
        have HFTX := hid (HFTX.out.trans (FT.of hfy HX.out.f HQ.out.f))
        have HMS := hid ((HS4.out.m.ms kW0 (recsB [le8 u, b])).beg)
        clear hya hyb hfy z9 hb
        go_wp2_with fail
        go_ret
        exact ⟨HFTX.out, _, HQ.out, HMS.out.cl6 (by decide), .inr ⟨rfl, HD.out, by rw [HTO.out]; exact HMS.out.up (by decide)⟩⟩
      have z0 : errV pa 0 = .nilIface := rfl
      have hky := hyb hb
      rw [hb, z0]
      clear hya hyb z0 hb
      have hq5 : ∃ q5, PW w0 wy X q5 ∧ MS p q5 kW0 (recsB [le8 u, b]) 5 ∧ Put p q5 kW0 (recsB [le8 u, b]) q5.names := ⟨_, hky, HS4.out.ren (.inl rfl)⟩
      obtain ⟨q5, hy, hs5, hp5⟩ := hq5
      have HY := hid hy; have HFTY := hid (HFTX.out.trans (FT.of hfy HX.out.f hy.f)); have HS5 := hid hs5; have HP5 := hid hp5
      clear hy hfy HRN hs5 hp5 hky
      have HSD := hid (syncdir_g HY.out HE.out.s6 (by have := HS5.out.cl; have := HCL.out; omega))
      go_wp2_with fail
      refine HSD.out.mono ?_
      rintro e wz ⟨rfl, hfz, hza, hzb⟩
      have hnoq := PS.begE_no q5
      rcases hnoq with hb | hb
      rotate_left
      · have z9 : errV pa 110 = .iface 168 (.pointer (some (pa 9))) := rfl
        have HQ := hid (hza (by rw [hb]; decide)); have HD := hid (begE_down (q := q5) (by rw [hb]; decide))
        rw [hb, z9]
        have HFTZ := hid (HFTY.out.trans (FT.of hfz HY.out.f HQ.out.f))
        have HMS := hid (HS5.out.beg)
        clear hza hzb hfz z9 hb
        go_wp2_with fail
        go_ret
        exact ⟨HFTZ.out, _, HQ.out, HMS.out.cl6 (by decide), .inr ⟨rfl, HD.out, by rw [HTO.out]; exact HMS.out.up (by decide)⟩⟩
      have HUP := hid (begE_up (q := q5) hb)
      have z0 : errV pa 0 = .nilIface := rfl
      have hkz := hzb hb
      rw [hb, z0]
      clear hza hzb z0 hb
      have HZ := hid hkz; have HFTZ := hid (HFTY.out.trans (FT.of hfz HY.out.f hkz.f))
      clear hfz HSD hkz
      go_wp2_with fail
      go_ret
      exact ⟨HFTZ.out, _, HZ.out, HS5.out.sd6, .inl ⟨rfl, HUP.out, by rw [HTO.out]; exact HS5.out.done HP5.out HRI.out (.inl rfl) HUP.out⟩⟩
    | some kx =>
      have HLN := hid (len_u1 H1.out HE.out.s6 HDN.out (nm := kNew) hk)
      have HKX := hid hk
      clear hk
      go_wp2_with fail
      refine HLN.out.mono ?_
      rintro e w3 ⟨rfl, hf3⟩
      have H3 := hid (H1.out.fr hf3); have HFT3 := hid (HFT1.out.trans (FT.of0 (w0 := w0) hf3))
      have c6 := HC6.out w3 H3.out.f
      clear hf3
      go_wp2_with fail
      refine (HI0.out w3 H3.out.f).mono ?_
      rintro e w4 ⟨rfl, rfl⟩
      clear c6
      have HM0 := hid (MS0.start HRI.out ar)
      have HRM := hid (remove_g H3.out HE.out.s6 (nm := kNew) (k := kx) HKX.out (by have := HM0.out.cl; have := HCL.out; omega))
      go_wp2_with fail
      refine HRM.out.mono ?_
      rintro e w4 ⟨rfl, hf4, h4a, h4b⟩
      have hnoq := PS.begE_no (p.arm ar)
      rcases hnoq with hb | hb
      rotate_left
      · have z9 : errV pa 110 = .iface 168 (.pointer (some (pa 9))) := rfl
        have HQ := hid (h4a (by rw [hb]; decide)); have HD := hid (begE_down (q := p.arm ar) (by rw [hb]; decide))
        rw [hb, z9]
        have HFTX := hid (HFT3.out.trans (FT.of hf4 H3.out.f HQ.out.f))
        have HMS := hid ((HM0.out.ms kW0 (recsB [le8 u, b])).beg)
        clear h4a h4b hf4 z9 hb
        go_wp2_with fail
        go_ret
        exact ⟨HFTX.out, _, HQ.out, HMS.out.cl6 (by decide), .inr ⟨rfl, HD.out, by rw [HTO.out]; exact HMS.out.up (by decide)⟩⟩
      have z0 : errV pa 0 = .nilIface := rfl
      have hk4 := h4b hb
      rw [hb, z0]
      clear h4a h4b z0 hb
      have hq1 : ∃ q1, PW w0 w4 X q1 ∧ MS0 p q1 1 ∧ lk q1.names kNew = none := ⟨_, hk4, HM0.out.beg.rm, rm_none _⟩
      obtain ⟨q1, h4, hm1, hn1'⟩ := hq1
      have H4 := hid h4; have HFT4 := hid (HFT3.out.trans (FT.of hf4 H3.out.f h4.f)); have HM1 := hid hm1; have HN1 := hid hn1'
      clear h4 hm1 hn1' hk4 hf4 HRM
      have HP1C := hid (show q1.calls ≤ 1000000 ∧ q1.files ≤ 1000000 from by have := HM1.out.cl; have := HCL.out; omega)
      have HCR := hid (create_g H4.out HE.out.s6 (nm := kNew) (by decide +kernel) HN1.out HP1C.out)
      go_wp2_with fail
      refine HCR.out.mono ?_
      rintro e w5 ⟨rfl, hf5, h5a, h5b⟩
      have hnoq := PS.begE_no q1
      rcases hnoq with hb | hb
      rotate_left
      · have z9 : errV pa 110 = .iface 168 (.pointer (some (pa 9))) := rfl
        have HQ := hid (h5a (by rw [hb]; decide)); have HD := hid (begE_down (q := q1) (by rw [hb]; decide))
        rw [hb, z9]
        have HFTX := hid (HFT4.out.trans (FT.of hf5 H4.out.f HQ.out.f))
        have HMS := hid ((HM1.out.ms kW0 (recsB [le8 u, b])).beg)
        clear h5a h5b hf5 z9 hb
        go_wp2_with fail
        go_ret
        exact ⟨HFTX.out, _, HQ.out, HMS.out.cl6 (by decide), .inr ⟨rfl, HD.out, by rw [HTO.out]; exact HMS.out.up (by decide)⟩⟩
      have z0 : errV pa 0 = .nilIface := rfl
      have hk5 := h5b hb
      rw [hb, z0]
      clear h5a h5b z0 hb
      obtain ⟨F, hF, h5⟩ := hk5
      have hq2 : ∃ q2, PW w0 w5 X q2 ∧ St p q2 2 F [] 0 := ⟨_, h5, HM1.out.cr H4.out.ok.kn hF⟩
      obtain ⟨q2, h5, hs2⟩ := hq2
      have H5 := hid h5; have HFT5 := hid (HFT4.out.trans (FT.of hf5 H4.out.f h5.f)); have HS2 := hid hs2
      clear h5 hf5 hF hs2 HCR
      go_wp2_with fail
      refine (HNUM.out w5).mono ?_
      rintro e w6 ⟨v6, rfl, ho6, hf6⟩
      obtain ⟨a6, c6', hv6, -⟩ := own_len ho6
      rw [show (le8 u).length = 8 from rfl] at hv6
      subst hv6
      have HFT6 := hid (HFT5.out.trans (FT.of0 (w0 := w0) hf6))
      have hfa := (Fr.refl (fun _ => False) w6).alloc (.cells #[.slice a6 8 c6', .slice ab b.length cb] 22)
      have hrow := heap_alloc_new w6 (.cells #[.slice a6 8 c6', .slice ab b.length cb] 22)
      have HFT7 := hid (HFT6.out.trans (FT.of0 (w0 := w0) hfa))
      have H7 := hid (H5.out.fr (hf6.trans' hfa))
      have hput := put_any (fun _ => False) (fun _ => True) (.slice none 0 0) (.slice (some ⟨w6.heap.size, 0, none⟩) 2 2) [] [le8 u, b] (w6.alloc (.cells #[.slice a6 8 c6', .slice ab b.length cb] 22)) (Bs.nil' _ _) ⟨_, 2, rfl, Nat.le_refl _, by simp [maxLen], fun k hk => by
        have hk2 : k = 0 ∨ k = 1 := by simp at hk; omega
        rcases hk2 with rfl | rfl
        · exact ⟨w6.heap.size, 0, .slice a6 8 c6', rfl, trivial, by rw [cell_of_row _ _ _ _ _ _ hrow]; rfl, ((OB.bs ho6).frame hfa fun _ _ => id).mono fun _ _ _ => trivial⟩
        · obtain ⟨D, hB⟩ := HB.out _ HFT7.out
          exact ⟨w6.heap.size, 0, .slice ab b.length cb, rfl, trivial, by rw [cell_of_row _ _ _ _ _ _ hrow]; rfl, hB.mono fun _ _ _ => trivial⟩⟩ (by rw [List.nil_append, HRL.out]; have := HBL.out; omega)
      rw [List.nil_append] at hput
      have HPUT := hid hput
      clear hput hrow hfa hf6 ho6
      go_wp2_with fail
      refine HPUT.out.mono ?_
      rintro e w8 ⟨v8, rfl, ho8, hf8⟩
      have H8 := hid (H7.out.fr hf8); have HFT8 := hid (HFT7.out.trans (FT.of0 (w0 := w0) hf8))
      have hb8 := ho8.bs2
      obtain ⟨a8, c8, hv8, -⟩ := own_len ho8
      subst hv8
      have HAP := hid (append_g H8.out HE.out.s6 (nm := kNew) (k := F) HS2.out.nk _ (recsB [le8 u, b]) _ hb8 (fun k hk => .inl (Tk.bytes hk)) (by rw [HRL.out, HS2.out.m.room]; have := HS2.out.m.used HRI.out H8.out.ok.kn; have := HBL.out; omega) (by have := HS2.out.m.cl; have := HCL.out; omega))
      clear hf8 ho8 hb8 HPUT
      go_wp2_with fail
      refine HAP.out.mono ?_
      rintro e w9 ⟨rfl, hf9, h9a, h9b⟩
      have hnoq := PS.begE_no q2
      rcases hnoq with hb | hb
      rotate_left
      · have z9 : errV pa 110 = .iface 168 (.pointer (some (pa 9))) := rfl
        have HQ := hid (h9a (by rw [hb]; decide)); have HD := hid (begE_down (q := q2) (by rw [hb]; decide))
        rw [hb, z9]
        have HFTX := hid (HFT8.out.trans (FT.of hf9 H8.out.f HQ.out.f))
        have HMS := hid ((HS2.out.m.ms kW0 (recsB [le8 u, b])).beg)
        clear h9a h9b hf9 z9 hb
        go_wp2_with fail
        go_ret
        exact ⟨HFTX.out, _, HQ.out, HMS.out.cl6 (by decide), .inr ⟨rfl, HD.out, by rw [HTO.out]; exact HMS.out.up (by decide)⟩⟩
      have z0 : errV pa 0 = .nilIface := rfl
      have hk9 := h9b hb
      rw [hb, z0]
      clear h9a h9b z0 hb
      have hq3 : ∃ q3, PW w0 w9 X q3 ∧ St p q3 3 F (recsB [le8 u, b]) 0 := ⟨_, hk9, HS2.out.app _ (by rw [HRL.out]; have := HBL.out; omega)⟩
      obtain ⟨q3, h9, hs3⟩ := hq3
      have H9 := hid h9; have HFT9 := hid (HFT8.out.trans (FT.of hf9 H8.out.f h9.f)); have HS3 := hid hs3
      clear h9 hf9 HAP hs3 hk9
      have HSY := hid (sync_g H9.out HE.out.s6 (nm := kNew) (k := F) HS3.out.nk (by have := HS3.out.m.cl; have := HCL.out; omega))
      go_wp2_with fail
      refine HSY.out.mono ?_
      rintro e wx ⟨rfl, hfx, hxa, hxb⟩
      have hnoq := PS.begE_no q3
      rcases hnoq with hb | hb
      rotate_left
      · have z9 : errV pa 110 = .iface 168 (.pointer (some (pa 9))) := rfl
        have HQ := hid (hxa (by rw [hb]; decide)); have HD := hid (begE_down (q := q3) (by rw [hb]; decide))
        rw [hb, z9]
        have HFTX := hid (HFT9.out.trans (FT.of hfx H9.out.f HQ.out.f))
        have HMS := hid ((HS3.out.m.ms kW0 (recsB [le8 u, b])).beg)
        clear hxa hxb hfx z9 hb
        go_wp2_with fail
        go_ret
        exact ⟨HFTX.out, _, HQ.out, HMS.out.cl6 (by decide), .inr ⟨rfl, HD.out, by rw [HTO.out]; exact HMS.out.up (by decide)⟩⟩
      have z0 : errV pa 0 = .nilIface := rfl
      have hkx := hxb hb
      rw [hb, z0]
      clear hxa hxb z0 hb
      have hq4 : ∃ q4, PW w0 wx X q4 ∧ St p q4 4 F (recsB [le8 u, b]) (recsB [le8 u, b]).length := ⟨_, hkx, HS3.out.syn (by rw [HRL.out]; have := HBL.out; omega)⟩
      obtain ⟨q4, hx, hs4⟩ := hq4
      have HX := hid hx; have HFTX := hid (HFT9.out.trans (FT.of hfx H9.out.f hx.f)); have HS4 := hid hs4
      clear hx hfx HSY hs4 hkx
      have HRN := hid (rename_g HX.out HE.out.s6 (nm := kNew) (k := F) HS4.out.nk kW0 (by decide +kernel) (by have := HS4.out.m.cl; have := HCL.out; omega))
      go_wp2_with fail
      refine HRN.out.mono ?_
      rintro e wy ⟨rfl, hfy, hya, hyb⟩
      have hnoq := PS.begE_no q4
      rcases hnoq with hb | hb
      rotate_left
      · have z9 : errV pa 110 = .iface 168 (.pointer (some (pa 9))) := rfl
        have HQ := hid (hya (by rw [hb]; decide)); have HD := hid (begE_down (q := q4) (by rw [hb]; decide))
        rw [hb, z9]
        have HFTX := hid (HFTX.out.trans (FT.of hfy HX.out.f HQ.out.f))
        have HMS := hid ((HS4.out.m.ms kW0 (recsB [le8 u, b])).beg)
        clear hya hyb hfy z9 hb
        go_wp2_with fail
        go_ret
        exact ⟨HFTX.out, _, HQ.out, HMS.out.cl6 (by decide), .inr ⟨rfl, HD.out, by rw [HTO.out]; exact HMS.out.up (by decide)⟩⟩
      have z0 : errV pa 0 = .nilIface := rfl
      have hky := hyb hb
      rw [hb, z0]
      clear hya hyb z0 hb
      have hq5 : ∃ q5, PW w0 wy X q5 ∧ MS p q5 kW0 (recsB [le8 u, b]) 5 ∧ Put p q5 kW0 (recsB [le8 u, b]) q5.names := ⟨_, hky, HS4.out.ren (.inl rfl)⟩
      obtain ⟨q5, hy, hs5, hp5⟩ := hq5
      have HY := hid hy; have HFTY := hid (HFTX.out.trans (FT.of hfy HX.out.f hy.f)); have HS5 := hid hs5; have HP5 := hid hp5
      clear hy hfy HRN hs5 hp5 hky
      have HSD := hid (syncdir_g HY.out HE.out.s6 (by have := HS5.out.cl; have := HCL.out; omega))
      go_wp2_with fail
      refine HSD.out.mono ?_
      rintro e wz ⟨rfl, hfz, hza, hzb⟩
      have hnoq := PS.begE_no q5
      rcases hnoq with hb | hb
      rotate_left
      · have z9 : errV pa 110 = .iface 168 (.pointer (some (pa 9))) := rfl
        have HQ := hid (hza (by rw [hb]; decide)); have HD := hid (begE_down (q := q5) (by rw [hb]; decide))
        rw [hb, z9]
        have HFTZ := hid (HFTY.out.trans (FT.of hfz HY.out.f HQ.out.f))
        have HMS := hid (HS5.out.beg)
        clear hza hzb hfz z9 hb
        go_wp2_with fail
        go_ret
        exact ⟨HFTZ.out, _, HQ.out, HMS.out.cl6 (by decide), .inr ⟨rfl, HD.out, by rw [HTO.out]; exact HMS.out.up (by decide)⟩⟩
      have HUP := hid (begE_up (q := q5) hb)
      have z0 : errV pa 0 = .nilIface := rfl
      have hkz := hzb hb
      rw [hb, z0]
      clear hza hzb z0 hb
      have HZ := hid hkz; have HFTZ := hid (HFTY.out.trans (FT.of hfz HY.out.f hkz.f))
      clear hfz HSD hkz
      go_wp2_with fail
      go_ret
      exact ⟨HFTZ.out, _, HZ.out, HS5.out.sd6, .inl ⟨rfl, HUP.out, by rw [HTO.out]; exact HS5.out.done HP5.out HRI.out (.inl rfl) HUP.out⟩⟩
  · have HTO := hid (show saveTo kW0 = kW1 by decide +kernel)
    cases hk : lk p.names kNew with
    | none =>
      have HLN := hid (len_u0 H1.out HE.out.s6 HDN.out (nm := kNew) (by decide) hk)
      have z1 : errV pa 107 = .iface 168 (.pointer (some (pa 6))) := rfl
      rw [z1] at HLN
      have HN1x := hid (show lk (p.arm ar).names kNew = none from hk)
      clear z1 hk
      go_wp2_with fail
      refine HLN.out.mono ?_
      rintro e w3 ⟨rfl, hf3⟩
      have H4x := hid (H1.out.fr hf3); have HFT4 := hid (HFT1.out.trans (FT.of0 (w0 := w0) hf3))
      have c6 := HC6.out w3 H4x.out.f
      clear hf3
      go_wp2_with fail
      refine (HI7.out w3 H4x.out.f).mono ?_
      rintro e w4 ⟨rfl, rfl⟩
      clear c6
      have hq1 : ∃ q1, PW w0 w3 X q1 ∧ MS0 p q1 1 ∧ lk q1.names kNew = none := ⟨_, H4x.out, (MS0.start HRI.out ar).up1, HN1x.out⟩
      obtain ⟨q1, h4, hm1, hn1'⟩ := hq1
      have H4 := hid h4; have HM1 := hid hm1; have HN1 := hid hn1'
      clear h4 hm1 hn1' H4x HN1x
      have HP1C := hid (show q1.calls ≤ 1000000 ∧ q1.files ≤ 1000000 from by have := HM1.out.cl; have := HCL.out; omega)
      have HCR := hid (create_g H4.out HE.out.s6 (nm := kNew) (by decide +kernel) HN1.out HP1C.out)
      go_wp2_with fail
      refine HCR.out.mono ?_
      rintro e w5 ⟨rfl, hf5, h5a, h5b⟩
      have hnoq := PS.begE_no q1
      rcases hnoq with hb | hb
      rotate_left
      · have z9 : errV pa 110 = .iface 168 (.pointer (some (pa 9))) := rfl
        have HQ := hid (h5a (by rw [hb]; decide)); have HD := hid (begE_down (q := q1) (by rw [hb]; decide))
        rw [hb, z9]
        have HFTX := hid (HFT4.out.trans (FT.of hf5 H4.out.f HQ.out.f))
        have HMS := hid ((HM1.out.ms kW1 (recsB [le8 u, b])).beg)
        clear h5a h5b hf5 z9 hb
        go_wp2_with fail
        go_ret
        exact ⟨HFTX.out, _, HQ.out, HMS.out.cl6 (by decide), .inr ⟨rfl, HD.out, by rw [HTO.out]; exact HMS.out.up (by decide)⟩⟩
      have z0 : errV pa 0 = .nilIface := rfl
      have hk5 := h5b hb
      rw [hb, z0]
      clear h5a h5b z0 hb
      obtain ⟨F, hF, h5⟩ := hk5
      have hq2 : ∃ q2, PW w0 w5 X q2 ∧ St p q2 2 F [] 0 := ⟨_, h5, HM1.out.cr H4.out.ok.kn hF⟩
      obtain ⟨q2, h5, hs2⟩ := hq2
      have H5 := hid h5; have HFT5 := hid (HFT4.out.trans (FT.of hf5 H4.out.f h5.f)); have HS2 := hid hs2
      clear h5 hf5 hF hs2 HCR
      go_wp2_with fail
      refine (HNUM.out w5).mono ?_
      rintro e w6 ⟨v6, rfl, ho6, hf6⟩
      obtain ⟨a6, c6', hv6, -⟩ := own_len ho6
      rw [show (le8 u).length = 8 from rfl] at hv6
      subst hv6
      have HFT6 := hid (HFT5.out.trans (FT.of0 (w0 := w0) hf6))
      have hfa := (Fr.refl (fun _ => False) w6).alloc (.cells #[.slice a6 8 c6', .slice ab b.length cb] 22)
      have hrow := heap_alloc_new w6 (.cells #[.slice a6 8 c6', .slice ab b.length cb] 22)
      have HFT7 := hid (HFT6.out.trans (FT.of0 (w0 := w0) hfa))
      have H7 := hid (H5.out.fr (hf6.trans' hfa))
      have hput := put_any (fun _ => False) (fun _ => True) (.slice none 0 0) (.slice (some ⟨w6.heap.size, 0, none⟩) 2 2) [] [le8 u, b] (w6.alloc (.cells #[.slice a6 8 c6', .slice ab b.length cb] 22)) (Bs.nil' _ _) ⟨_, 2, rfl, Nat.le_refl _, by simp [maxLen], fun k hk => by
        have hk2 : k = 0 ∨ k = 1 := by simp at hk; omega
        rcases hk2 with rfl | rfl
        · exact ⟨w6.heap.size, 0, .slice a6 8 c6', rfl, trivial, by rw [cell_of_row _ _ _ _ _ _ hrow]; rfl, ((OB.bs ho6).frame hfa fun _ _ => id).mono fun _ _ _ => trivial⟩
        · obtain ⟨D, hB⟩ := HB.out _ HFT7.out
          exact ⟨w6.heap.size, 0, .slice ab b.length cb, rfl, trivial, by rw [cell_of_row _ _ _ _ _ _ hrow]; rfl, hB.mono fun _ _ _ => trivial⟩⟩ (by rw [List.nil_append, HRL.out]; have := HBL.out; omega)
      rw [List.nil_append] at hput
      have HPUT := hid hput
      clear hput hrow hfa hf6 ho6
      go_wp2_with fail
      refine HPUT.out.mono ?_
      rintro e w8 ⟨v8, rfl, ho8, hf8⟩
      have H8 := hid (H7.out.fr hf8); have HFT8 := hid (HFT7.out.trans (FT.of0 (w0 := w0) hf8))
      have hb8 := ho8.bs2
      obtain ⟨a8, c8, hv8, -⟩ := own_len ho8
      subst hv8
      have HAP := hid (append_g H8.out HE.out.s6 (nm := kNew) (k := F) HS2.out.nk _ (recsB [le8 u, b]) _ hb8 (fun k hk => .inl (Tk.bytes hk)) (by rw [HRL.out, HS2.out.m.room]; have := HS2.out.m.used HRI.out H8.out.ok.kn; have := HBL.out; omega) (by have := HS2.out.m.cl; have := HCL.out; omega))
      clear hf8 ho8 hb8 HPUT
      go_wp2_with fail
      refine HAP.out.mono ?_
      rintro e w9 ⟨rfl, hf9, h9a, h9b⟩
      have hnoq := PS.begE_no q2
      rcases hnoq with hb | hb
      rotate_left
      · have z9 : errV pa 110 = .iface 168 (.pointer (some (pa 9))) := rfl
        have HQ := hid (h9a (by rw [hb]; decide)); have HD := hid (begE_down (q := q2) (by rw [hb]; decide))
        rw [hb, z9]
        have HFTX := hid (HFT8.out.trans (FT.of hf9 H8.out.f HQ.out.f))
        have HMS := hid ((HS2.out.m.ms kW1 (recsB [le8 u, b])).beg)
        clear h9a h9b hf9 z9 hb
        go_wp2_with fail
        go_ret
        exact ⟨HFTX.out, _, HQ.out, HMS.out.cl6 (by decide), .inr ⟨rfl, HD.out, by rw [HTO.out]; exact HMS.out.up (by decide)⟩⟩
      have z0 : errV pa 0 = .nilIface := rfl
      have hk9 := h9b hb
      rw [hb, z0]
      clear h9a h9b z0 hb
      have hq3 : ∃ q3, PW w0 w9 X q3 ∧ St p q3 3 F (recsB [le8 u, b]) 0 := ⟨_, hk9, HS2.out.app _ (by rw [HRL.out]; have := HBL.out; omega)⟩
      obtain ⟨q3, h9, hs3⟩ := hq3
      have H9 := hid h9; have HFT9 := hid (HFT8.out.trans (FT.of hf9 H8.out.f h9.f)); have HS3 := hid hs3
      clear h9 hf9 HAP hs3 hk9
      have HSY := hid (sync_g H9.out HE.out.s6 (nm := kNew) (k := F) HS3.out.nk (by have := HS3.out.m.cl; have := HCL.out; omega))
      go_wp2_with fail
      refine HSY.out.mono ?_
      rintro e wx ⟨rfl, hfx, hxa, hxb⟩
      have hnoq := PS.begE_no q3
      rcases hnoq with hb | hb
      rotate_left
      · have z9 : errV pa 110 = .iface 168 (.pointer (some (pa 9))) := rfl
        have HQ := hid (hxa (by rw [hb]; decide)); have HD := hid (begE_down (q := q3) (by rw [hb]; decide))
        rw [hb, z9]
        have HFTX := hid (HFT9.out.trans (FT.of hfx H9.out.f HQ.out.f))
        have HMS := hid ((HS3.out.m.ms kW1 (recsB [le8 u, b])).beg)
        clear hxa hxb hfx z9 hb
        go_wp2_with fail
        go_ret
        exact ⟨HFTX.out, _, HQ.out, HMS.out.cl6 (by decide), .inr ⟨rfl, HD.out, by rw [HTO.out]; exact HMS.out.up (by decide)⟩⟩
      have z0 : errV pa 0 = .nilIface := rfl
      have hkx := hxb hb
      rw [hb, z0]
      clear hxa hxb z0 hb
      have hq4 : ∃ q4, PW w0 wx X q4 ∧ St p q4 4 F (recsB [le8 u, b]) (recsB [le8 u, b]).length := ⟨_, hkx, HS3.out.syn (by rw [HRL.out]; have := HBL.out; omega)⟩
      obtain ⟨q4, hx, hs4⟩ := hq4
      have HX := hid hx; have HFTX := hid (HFT9.out.trans (FT.of hfx H9.out.f hx.f)); have HS4 := hid hs4
      clear hx hfx HSY hs4 hkx
      have HRN := hid (rename_g HX.out HE.out.s6 (nm := kNew) (k := F) HS4.out.nk kW1 (by decide +kernel) (by have := HS4.out.m.cl; have := HCL.out; omega))
      go_wp2_with fail
      refine HRN.out.mono ?_
      rintro e wy ⟨rfl, hfy, hya, hyb⟩
      have hnoq := PS.begE_no q4
      rcases hnoq with hb | hb
      rotate_left
      · have z9 : errV pa 110 = .iface 168 (.pointer (some (pa 9))) := rfl
        have HQ := hid (hya (by rw [hb]; decide)); have HD := hid (begE_down (q := q4) (by rw [hb]; decide))
        rw [hb, z9]
        have HFTX := hid (HFTX.out.trans (FT.of hfy HX.out.f HQ.out.f))
        have HMS := hid ((HS4.out.m.ms kW1 (recsB [le8 u, b])).beg)
        clear hya hyb hfy z9 hb
        go_wp2_with fail
        go_ret
        exact ⟨HFTX.out, _, HQ.out, HMS.out.cl6 (by decide), .inr ⟨rfl, HD.out, by rw [HTO.out]; exact HMS.out.up (by decide)⟩⟩
      have z0 : errV pa 0 = .nilIface := rfl
      have hky := hyb hb
      rw [hb, z0]
      clear hya hyb z0 hb
      have hq5 : ∃ q5, PW w0 wy X q5 ∧ MS p q5 kW1 (recsB [le8 u, b]) 5 ∧ Put p q5 kW1 (recsB [le8 u, b]) q5.names := ⟨_, hky, HS4.out.ren (.inr rfl)⟩
      obtain ⟨q5, hy, hs5, hp5⟩ := hq5
      have HY := hid hy; have HFTY := hid (HFTX.out.trans (FT.of hfy HX.out.f hy.f)); have HS5 := hid hs5; have HP5 := hid hp5
      clear hy hfy HRN hs5 hp5 hky
      have HSD := hid (syncdir_g HY.out HE.out.s6 (by have := HS5.out.cl; have := HCL.out; omega))
      go_wp2_with fail
      refine HSD.out.mono ?_
      rintro e wz ⟨rfl, hfz, hza, hzb⟩
      have hnoq := PS.begE_no q5
      rcases hnoq with hb | hb
      rotate_left
      · have z9 : errV pa 110 = .iface 168 (.pointer (some (pa 9))) := rfl
        have HQ := hid (hza (by rw [hb]; decide)); have HD := hid (begE_down (q := q5) (by rw [hb]; decide))
        rw [hb, z9]
        have HFTZ := hid (HFTY.out.trans (FT.of hfz HY.out.f HQ.out.f))
        have HMS := hid (HS5.out.beg)
        clear hza hzb hfz z9 hb
        go_wp2_with fail
        go_ret
        exact ⟨HFTZ.out, _, HQ.out, HMS.out.cl6 (by decide), .inr ⟨rfl, HD.out, by rw [HTO.out]; exact HMS.out.up (by decide)⟩⟩
      have HUP := hid (begE_up (q := q5) hb)
      have z0 : errV pa 0 = .nilIface := rfl
      have hkz := hzb hb
      rw [hb, z0]
      clear hza hzb z0 hb
      have HZ := hid hkz; have HFTZ := hid (HFTY.out.trans (FT.of hfz HY.out.f hkz.f))
      clear hfz HSD hkz
      go_wp2_with fail
      go_ret
      exact ⟨HFTZ.out, _, HZ.out, HS5.out.sd6, .inl ⟨rfl, HUP.out, by rw [HTO.out]; exact HS5.out.done HP5.out HRI.out (.inr rfl) HUP.out⟩⟩
    | some kx =>
      have HLN := hid (len_u1 H1.out HE.out.s6 HDN.out (nm := kNew) hk)
      have HKX := hid hk
      clear hk
      go_wp2_with fail
      refine HLN.out.mono ?_
      rintro e w3 ⟨rfl, hf3⟩
      have H3 := hid (H1.out.fr hf3); have HFT3 := hid (HFT1.out.trans (FT.of0 (w0 := w0) hf3))
      have c6 := HC6.out w3 H3.out.f
      clear hf3
      go_wp2_with fail
      refine (HI0.out w3 H3.out.f).mono ?_
      rintro e w4 ⟨rfl, rfl⟩
      clear c6
      have HM0 := hid (MS0.start HRI.out ar)
      have HRM := hid (remove_g H3.out HE.out.s6 (nm := kNew) (k := kx) HKX.out (by have := HM0.out.cl; have := HCL.out; omega))
      go_wp2_with fail
      refine HRM.out.mono ?_
      rintro e w4 ⟨rfl, hf4, h4a, h4b⟩
      have hnoq := PS.begE_no (p.arm ar)
      rcases hnoq with hb | hb
      rotate_left
      · have z9 : errV pa 110 = .iface 168 (.pointer (some (pa 9))) := rfl
        have HQ := hid (h4a (by rw [hb]; decide)); have HD := hid (begE_down (q := p.arm ar) (by rw [hb]; decide))
        rw [hb, z9]
        have HFTX := hid (HFT3.out.trans (FT.of hf4 H3.out.f HQ.out.f))
        have HMS := hid ((HM0.out.ms kW1 (recsB [le8 u, b])).beg)
        clear h4a h4b hf4 z9 hb
        go_wp2_with fail
        go_ret
        exact ⟨HFTX.out, _, HQ.out, HMS.out.cl6 (by decide), .inr ⟨rfl, HD.out, by rw [HTO.out]; exact HMS.out.up (by decide)⟩⟩
      have z0 : errV pa 0 = .nilIface := rfl
      have hk4 := h4b hb
      rw [hb, z0]
      clear h4a h4b z0 hb
      have hq1 : ∃ q1, PW w0 w4 X q1 ∧ MS0 p q1 1 ∧ lk q1.names kNew = none := ⟨_, hk4, HM0.out.beg.rm, rm_none _⟩
      obtain ⟨q1, h4, hm1, hn1'⟩ := hq1
      have H4 := hid h4; have HFT4 := hid (HFT3.out.trans (FT.of hf4 H3.out.f h4.f)); have HM1 := hid hm1; have HN1 := hid hn1'
      clear h4 hm1 hn1' hk4 hf4 HRM
      have HP1C := hid (show q1.calls ≤ 1000000 ∧ q1.files ≤ 1000000 from by have := HM1.out.cl; have := HCL.out; omega)
      have HCR := hid (create_g H4.out HE.out.s6 (nm := kNew) (by decide +kernel) HN1.out HP1C.out)
      go_wp2_with fail
      refine HCR.out.mono ?_
      rintro e w5 ⟨rfl, hf5, h5a, h5b⟩
      have hnoq := PS.begE_no q1
      rcases hnoq with hb | hb
      rotate_left
      · have z9 : errV pa 110 = .iface 168 (.pointer (some (pa 9))) := rfl
        have HQ := hid (h5a (by rw [hb]; decide)); have HD := hid (begE_down (q := q1) (by rw [hb]; decide))
        rw [hb, z9]
        have HFTX := hid (HFT4.out.trans (FT.of hf5 H4.out.f HQ.out.f))
        have HMS := hid ((HM1.out.ms kW1 (recsB [le8 u, b])).beg)
        clear h5a h5b hf5 z9 hb
        go_wp2_with fail
        go_ret
        exact ⟨HFTX.out, _, HQ.out, HMS.out.cl6 (by decide), .inr ⟨rfl, HD.out, by rw [HTO.out]; exact HMS.out.up (by decide)⟩⟩
      have z0 : errV pa 0 = .nilIface := rfl
      have hk5 := h5b hb
      rw [hb, z0]
      clear h5a h5b z0 hb
      obtain ⟨F, hF, h5⟩ := hk5
      have hq2 : ∃ q2, PW w0 w5 X q2 ∧ St p q2 2 F [] 0 := ⟨_, h5, HM1.out.cr H4.out.ok.kn hF⟩
      obtain ⟨q2, h5, hs2⟩ := hq2
      have H5 := hid h5; have HFT5 := hid (HFT4.out.trans (FT.of hf5 H4.out.f h5.f)); have HS2 := hid hs2
      clear h5 hf5 hF hs2 HCR
      go_wp2_with fail
      refine (HNUM.out w5).mono ?_
      rintro e w6 ⟨v6, rfl, ho6, hf6⟩
      obtain ⟨a6, c6', hv6, -⟩ := own_len ho6
      rw [show (le8 u).length = 8 from rfl] at hv6
      subst hv6
      have HFT6 := hid (HFT5.out.trans (FT.of0 (w0 := w0) hf6))
      have hfa := (Fr.refl (fun _ => False) w6).alloc (.cells #[.slice a6 8 c6', .slice ab b.length cb] 22)
      have hrow := heap_alloc_new w6 (.cells #[.slice a6 8 c6', .slice ab b.length cb] 22)
      have HFT7 := hid (HFT6.out.trans (FT.of0 (w0 := w0) hfa))
      have H7 := hid (H5.out.fr (hf6.trans' hfa))
      have hput := put_any (fun _ => False) (fun _ => True) (.slice none 0 0) (.slice (some ⟨w6.heap.size, 0, none⟩) 2 2) [] [le8 u, b] (w6.alloc (.cells #[.slice a6 8 c6', .slice ab b.length cb] 22)) (Bs.nil' _ _) ⟨_, 2, rfl, Nat.le_refl _, by simp [maxLen], fun k hk => by
        have hk2 : k = 0 ∨ k = 1 := by simp at hk; omega
        rcases hk2 with rfl | rfl
        · exact ⟨w6.heap.size, 0, .slice a6 8 c6', rfl, trivial, by rw [cell_of_row _ _ _ _ _ _ hrow]; rfl, ((OB.bs ho6).frame hfa fun _ _ => id).mono fun _ _ _ => trivial⟩
        · obtain ⟨D, hB⟩ := HB.out _ HFT7.out
          exact ⟨w6.heap.size, 0, .slice ab b.length cb, rfl, trivial, by rw [cell_of_row _ _ _ _ _ _ hrow]; rfl, hB.mono fun _ _ _ => trivial⟩⟩ (by rw [List.nil_append, HRL.out]; have := HBL.out; omega)
      rw [List.nil_append] at hput
      have HPUT := hid hput
      clear hput hrow hfa hf6 ho6
      go_wp2_with fail
      refine HPUT.out.mono ?_
      rintro e w8 ⟨v8, rfl, ho8, hf8⟩
      have H8 := hid (H7.out.fr hf8); have HFT8 := hid (HFT7.out.trans (FT.of0 (w0 := w0) hf8))
      have hb8 := ho8.bs2
      obtain ⟨a8, c8, hv8, -⟩ := own_len ho8
      subst hv8
      have HAP := hid (append_g H8.out HE.out.s6 (nm := kNew) (k := F) HS2.out.nk _ (recsB [le8 u, b]) _ hb8 (fun k hk => .inl (Tk.bytes hk)) (by rw [HRL.out, HS2.out.m.room]; have := HS2.out.m.used HRI.out H8.out.ok.kn; have := HBL.out; omega) (by have := HS2.out.m.cl; have := HCL.out; omega))
      clear hf8 ho8 hb8 HPUT
      go_wp2_with fail
      refine HAP.out.mono ?_
      rintro e w9 ⟨rfl, hf9, h9a, h9b⟩
      have hnoq := PS.begE_no q2
      rcases hnoq with hb | hb
      rotate_left
      · have z9 : errV pa 110 = .iface 168 (.pointer (some (pa 9))) := rfl
        have HQ := hid (h9a (by rw [hb]; decide)); have HD := hid (begE_down (q := q2) (by rw [hb]; decide))
        rw [hb, z9]
        have HFTX := hid (HFT8.out.trans (FT.of hf9 H8.out.f HQ.out.f))
        have HMS := hid ((HS2.out.m.ms kW1 (recsB [le8 u, b])).beg)
        clear h9a h9b hf9 z9 hb
        go_wp2_with fail
        go_ret
        exact ⟨HFTX.out, _, HQ.out, HMS.out.cl6 (by decide), .inr ⟨rfl, HD.out, by rw [HTO.out]; exact HMS.out.up (by decide)⟩⟩
      have z0 : errV pa 0 = .nilIface := rfl
      have hk9 := h9b hb
      rw [hb, z0]
      clear h9a h9b z0 hb
      have hq3 : ∃ q3, PW w0 w9 X q3 ∧ St p q3 3 F (recsB [le8 u, b]) 0 := ⟨_, hk9, HS2.out.app _ (by rw [HRL.out]; have := HBL.out; omega)⟩
      obtain ⟨q3, h9, hs3⟩ := hq3
      have H9 := hid h9; have HFT9 := hid (HFT8.out.trans (FT.of hf9 H8.out.f h9.f)); have HS3 := hid hs3
      clear h9 hf9 HAP hs3 hk9
      have HSY := hid (sync_g H9.out HE.out.s6 (nm := kNew) (k := F) HS3.out.nk (by have := HS3.out.m.cl; have := HCL.out; omega))
      go_wp2_with fail
      refine HSY.out.mono ?_
      rintro e wx ⟨rfl, hfx, hxa, hxb⟩
      have hnoq := PS.begE_no q3
      rcases hnoq with hb | hb
      rotate_left
      · have z9 : errV pa 110 = .iface 168 (.pointer (some (pa 9))) := rfl
        have HQ := hid (hxa (by rw [hb]; decide)); have HD := hid (begE_down (q := q3) (by rw [hb]; decide))
        rw [hb, z9]
        have HFTX := hid (HFT9.out.trans (FT.of hfx H9.out.f HQ.out.f))
        have HMS := hid ((HS3.out.m.ms kW1 (recsB [le8 u, b])).beg)
        clear hxa hxb hfx z9 hb
        go_wp2_with fail
        go_ret
        exact ⟨HFTX.out, _, HQ.out, HMS.out.cl6 (by decide), .inr ⟨rfl, HD.out, by rw [HTO.out]; exact HMS.out.up (by decide)⟩⟩
      have z0 : errV pa 0 = .nilIface := rfl
      have hkx := hxb hb
      rw [hb, z0]
      clear hxa hxb z0 hb
      have hq4 : ∃ q4, PW w0 wx X q4 ∧ St p q4 4 F (recsB [le8 u, b]) (recsB [le8 u, b]).length := ⟨_, hkx, HS3.out.syn (by rw [HRL.out]; have := HBL.out; omega)⟩
      obtain ⟨q4, hx, hs4⟩ := hq4
      have HX := hid hx; have HFTX := hid (HFT9.out.trans (FT.of hfx H9.out.f hx.f)); have HS4 := hid hs4
      clear hx hfx HSY hs4 hkx
      have HRN := hid (rename_g HX.out HE.out.s6 (nm := kNew) (k := F) HS4.out.nk kW1 (by decide +kernel) (by have := HS4.out.m.cl; have := HCL.out; omega))
      go_wp2_with fail
      refine HRN.out.mono ?_
      rintro e wy ⟨rfl, hfy, hya, hyb⟩
      have hnoq := PS.begE_no q4
      rcases hnoq with hb | hb
      rotate_left
      · have z9 : errV pa 110 = .iface 168 (.pointer (some (pa 9))) := rfl
        have HQ := hid (hya (by rw [hb]; decide)); have HD := hid (begE_down (q := q4) (by rw [hb]; decide))
        rw [hb, z9]
        have HFTX := hid (HFTX.out.trans (FT.of hfy HX.out.f HQ.out.f))
        have HMS := hid ((HS4.out.m.ms kW1 (recsB [le8 u, b])).beg)
        clear hya hyb hfy z9 hb
        go_wp2_with fail
        go_ret
        exact ⟨HFTX.out, _, HQ.out, HMS.out.cl6 (by decide), .inr ⟨rfl, HD.out, by rw [HTO.out]; exact HMS.out.up (by decide)⟩⟩
      have z0 : errV pa 0 = .nilIface := rfl
      have hky := hyb hb
      rw [hb, z0]
      clear hya hyb z0 hb
      have hq5 : ∃ q5, PW w0 wy X q5 ∧ MS p q5 kW1 (recsB [le8 u, b]) 5 ∧ Put p q5 kW1 (recsB [le8 u, b]) q5.names := ⟨_, hky, HS4.out.ren (.inr rfl)⟩
      obtain ⟨q5, hy, hs5, hp5⟩ := hq5
      have HY := hid hy; have HFTY := hid (HFTX.out.trans (FT.of hfy HX.out.f hy.f)); have HS5 := hid hs5; have HP5 := hid hp5
      clear hy hfy HRN hs5 hp5 hky
      have HSD := hid (syncdir_g HY.out HE.out.s6 (by have := HS5.out.cl; have := HCL.out; omega))
      go_wp2_with fail
      refine HSD.out.mono ?_
      rintro e wz ⟨rfl, hfz, hza, hzb⟩
      have hnoq := PS.begE_no q5
      rcases hnoq with hb | hb
      rotate_left
      · have z9 : errV pa 110 = .iface 168 (.pointer (some (pa 9))) := rfl
        have HQ := hid (hza (by rw [hb]; decide)); have HD := hid (begE_down (q := q5) (by rw [hb]; decide))
        rw [hb, z9]
        have HFTZ := hid (HFTY.out.trans (FT.of hfz HY.out.f HQ.out.f))
        have HMS := hid (HS5.out.beg)
        clear hza hzb hfz z9 hb
        go_wp2_with fail
        go_ret
        exact ⟨HFTZ.out, _, HQ.out, HMS.out.cl6 (by decide), .inr ⟨rfl, HD.out, by rw [HTO.out]; exact HMS.out.up (by decide)⟩⟩
      have HUP := hid (begE_up (q := q5) hb)
      have z0 : errV pa 0 = .nilIface := rfl
      have hkz := hzb hb
      rw [hb, z0]
      clear hza hzb z0 hb
      have HZ := hid hkz; have HFTZ := hid (HFTY.out.trans (FT.of hfz HY.out.f hkz.f))
      clear hfz HSD hkz
      go_wp2_with fail
      go_ret
      exact ⟨HFTZ.out, _, HZ.out, HS5.out.sd6, .inl ⟨rfl, HUP.out, by rw [HTO.out]; exact HS5.out.done HP5.out HRI.out (.inr rfl) HUP.out⟩⟩
  · have HTO := hid (show saveTo kW1 = kW0 by decide +kernel)
    cases hk : lk p.names kNew with
    | none =>
      have HLN := hid (len_u0 H1.out HE.out.s6 HDN.out (nm := kNew) (by decide) hk)
      have z1 : errV pa 107 = .iface 168 (.pointer (some (pa 6))) := rfl
      rw [z1] at HLN
      have HN1x := hid (show lk (p.arm ar).names kNew = none from hk)
      clear z1 hk
      go_wp2_with fail
      refine HLN.out.mono ?_
      rintro e w3 ⟨rfl, hf3⟩
      have H4x := hid (H1.out.fr hf3); have HFT4 := hid (HFT1.out.trans (FT.of0 (w0 := w0) hf3))
      have c6 := HC6.out w3 H4x.out.f
      clear hf3
      go_wp2_with fail
      refine (HI7.out w3 H4x.out.f).mono ?_
      rintro e w4 ⟨rfl, rfl⟩
      clear c6
      have hq1 : ∃ q1, PW w0 w3 X q1 ∧ MS0 p q1 1 ∧ lk q1.names kNew = none := ⟨_, H4x.out, (MS0.start HRI.out ar).up1, HN1x.out⟩
      obtain ⟨q1, h4, hm1, hn1'⟩ := hq1
      have H4 := hid h4; have HM1 := hid hm1; have HN1 := hid hn1'
      clear h4 hm1 hn1' H4x HN1x
      have HP1C := hid (show q1.calls ≤ 1000000 ∧ q1.files ≤ 1000000 from by have := HM1.out.cl; have := HCL.out; omega)
      have HCR := hid (create_g H4.out HE.out.s6 (nm := kNew) (by decide +kernel) HN1.out HP1C.out)
      go_wp2_with fail
      refine HCR.out.mono ?_
      rintro e w5 ⟨rfl, hf5, h5a, h5b⟩
      have hnoq := PS.begE_no q1
      rcases hnoq with hb | hb
      rotate_left
      · have z9 : errV pa 110 = .iface 168 (.pointer (some (pa 9))) := rfl
        have HQ := hid (h5a (by rw [hb]; decide)); have HD := hid (begE_down (q := q1) (by rw [hb]; decide))
        rw [hb, z9]
        have HFTX := hid (HFT4.out.trans (FT.of hf5 H4.out.f HQ.out.f))
        have HMS := hid ((HM1.out.ms kW0 (recsB [le8 u, b])).beg)
        clear h5a h5b hf5 z9 hb
        go_wp2_with fail
        go_ret
        exact ⟨HFTX.out, _, HQ.out, HMS.out.cl6 (by decide), .inr ⟨rfl, HD.out, by rw [HTO.out]; exact HMS.out.up (by decide)⟩⟩
      have z0 : errV pa 0 = .nilIface := rfl
      have hk5 := h5b hb
      rw [hb, z0]
      clear h5a h5b z0 hb
      obtain ⟨F, hF, h5⟩ := hk5
      have hq2 : ∃ q2, PW w0 w5 X q2 ∧ St p q2 2 F [] 0 := ⟨_, h5, HM1.out.cr H4.out.ok.kn hF⟩
      obtain ⟨q2, h5, hs2⟩ := hq2
      have H5 := hid h5; have HFT5 := hid (HFT4.out.trans (FT.of hf5 H4.out.f h5.f)); have HS2 := hid hs2
      clear h5 hf5 hF hs2 HCR
      go_wp2_with fail
      refine (HNUM.out w5).mono ?_
      rintro e w6 ⟨v6, rfl, ho6, hf6⟩
      obtain ⟨a6, c6', hv6, -⟩ := own_len ho6
      rw [show (le8 u).length = 8 from rfl] at hv6
      subst hv6
      have HFT6 := hid (HFT5.out.trans (FT.of0 (w0 := w0) hf6))
      have hfa := (Fr.refl (fun _ => False) w6).alloc (.cells #[.slice a6 8 c6', .slice ab b.length cb] 22)
      have hrow := heap_alloc_new w6 (.cells #[.slice a6 8 c6', .slice ab b.length cb] 22)
      have HFT7 := hid (HFT6.out.trans (FT.of0 (w0 := w0) hfa))
      have H7 := hid (H5.out.fr (hf6.trans' hfa))
      have hput := put_any (fun _ => False) (fun _ => True) (.slice none 0 0) (.slice (some ⟨w6.heap.size, 0, none⟩) 2 2) [] [le8 u, b] (w6.alloc (.cells #[.slice a6 8 c6', .slice ab b.length cb] 22)) (Bs.nil' _ _) ⟨_, 2, rfl, Nat.le_refl _, by simp [maxLen], fun k hk => by
        have hk2 : k = 0 ∨ k = 1 := by simp at hk; omega
        rcases hk2 with rfl | rfl
        · exact ⟨w6.heap.size, 0, .slice a6 8 c6', rfl, trivial, by rw [cell_of_row _ _ _ _ _ _ hrow]; rfl, ((OB.bs ho6).frame hfa fun _ _ => id).mono fun _ _ _ => trivial⟩
        · obtain ⟨D, hB⟩ := HB.out _ HFT7.out
          exact ⟨w6.heap.size, 0, .slice ab b.length cb, rfl, trivial, by rw [cell_of_row _ _ _ _ _ _ hrow]; rfl, hB.mono fun _ _ _ => trivial⟩⟩ (by rw [List.nil_append, HRL.out]; have := HBL.out; omega)
      rw [List.nil_append] at hput
      have HPUT := hid hput
      clear hput hrow hfa hf6 ho6
      go_wp2_with fail
      refine HPUT.out.mono ?_
      rintro e w8 ⟨v8, rfl, ho8, hf8⟩
      have H8 := hid (H7.out.fr hf8); have HFT8 := hid (HFT7.out.trans (FT.of0 (w0 := w0) hf8))
      have hb8 := ho8.bs2
      obtain ⟨a8, c8, hv8, -⟩ := own_len ho8
      subst hv8
      have HAP := hid (append_g H8.out HE.out.s6 (nm := kNew) (k := F) HS2.out.nk _ (recsB [le8 u, b]) _ hb8 (fun k hk => .inl (Tk.bytes hk)) (by rw [HRL.out, HS2.out.m.room]; have := HS2.out.m.used HRI.out H8.out.ok.kn; have := HBL.out; omega) (by have := HS2.out.m.cl; have := HCL.out; omega))
      clear hf8 ho8 hb8 HPUT
      go_wp2_with fail
      refine HAP.out.mono ?_
      rintro e w9 ⟨rfl, hf9, h9a, h9b⟩
      have hnoq := PS.begE_no q2
      rcases hnoq with hb | hb
      rotate_left
      · have z9 : errV pa 110 = .iface 168 (.pointer (some (pa 9))) := rfl
        have HQ := hid (h9a (by rw [hb]; decide)); have HD := hid (begE_down (q := q2) (by rw [hb]; decide))
        rw [hb, z9]
        have HFTX := hid (HFT8.out.trans (FT.of hf9 H8.out.f HQ.out.f))
        have HMS := hid ((HS2.out.m.ms kW0 (recsB [le8 u, b])).beg)
        clear h9a h9b hf9 z9 hb
        go_wp2_with fail
        go_ret
        exact ⟨HFTX.out, _, HQ.out, HMS.out.cl6 (by decide), .inr ⟨rfl, HD.out, by rw [HTO.out]; exact HMS.out.up (by decide)⟩⟩
      have z0 : errV pa 0 = .nilIface := rfl
      have hk9 := h9b hb
      rw [hb, z0]
      clear h9a h9b z0 hb
      have hq3 : ∃ q3, PW w0 w9 X q3 ∧ St p q3 3 F (recsB [le8 u, b]) 0 := ⟨_, hk9, HS2.out.app _ (by rw [HRL.out]; have := HBL.out; omega)⟩
      obtain ⟨q3, h9, hs3⟩ := hq3
      have H9 := hid h9; have HFT9 := hid (HFT8.out.trans (FT.of hf9 H8.out.f h9.f)); have HS3 := hid hs3
      clear h9 hf9 HAP hs3 hk9
      have HSY := hid (sync_g H9.out HE.out.s6 (nm := kNew) (k := F) HS3.out.nk (by have := HS3.out.m.cl; have := HCL.out; omega))
      go_wp2_with fail
      refine HSY.out.mono ?_
      rintro e wx ⟨rfl, hfx, hxa, hxb⟩
      have hnoq := PS.begE_no q3
      rcases hnoq with hb | hb
      rotate_left
      · have z9 : errV pa 110 = .iface 168 (.pointer (some (pa 9))) := rfl
        have HQ := hid (hxa (by rw [hb]; decide)); have HD := hid (begE_down (q := q3) (by rw [hb]; decide))
        rw [hb, z9]
        have HFTX := hid (HFT9.out.trans (FT.of hfx H9.out.f HQ.out.f))
        have HMS := hid ((HS3.out.m.ms kW0 (recsB [le8 u, b])).beg)
        clear hxa hxb hfx z9 hb
        go_wp2_with fail
        go_ret
        exact ⟨HFTX.out, _, HQ.out, HMS.out.cl6 (by decide), .inr ⟨rfl, HD.out, by rw [HTO.out]; exact HMS.out.up (by decide)⟩⟩
      have z0 : errV pa 0 = .nilIface := rfl
      have hkx := hxb hb
      rw [hb, z0]
      clear hxa hxb z0 hb
      have hq4 : ∃ q4, PW w0 wx X q4 ∧ St p q4 4 F (recsB [le8 u, b]) (recsB [le8 u, b]).length := ⟨_, hkx, HS3.out.syn (by rw [HRL.out]; have := HBL.out; omega)⟩
      obtain ⟨q4, hx, hs4⟩ := hq4
      have HX := hid hx; have HFTX := hid (HFT9.out.trans (FT.of hfx H9.out.f hx.f)); have HS4 := hid hs4
      clear hx hfx HSY hs4 hkx
      have HRN := hid (rename_g HX.out HE.out.s6 (nm := kNew) (k := F) HS4.out.nk kW0 (by decide +kernel) (by have := HS4.out.m.cl; have := HCL.out; omega))
      go_wp2_with fail
      refine HRN.out.mono ?_
      rintro e wy ⟨rfl, hfy, hya, hyb⟩
      have hnoq := PS.begE_no q4
      rcases hnoq with hb | hb
      rotate_left
      · have z9 : errV pa 110 = .iface 168 (.pointer (some (pa 9))) := rfl
        have HQ := hid (hya (by rw [hb]; decide)); have HD := hid (begE_down (q := q4) (by rw [hb]; decide))
        rw [hb, z9]
        have HFTX := hid (HFTX.out.trans (FT.of hfy HX.out.f HQ.out.f))
        have HMS := hid ((HS4.out.m.ms kW0 (recsB [le8 u, b])).beg)
        clear hya hyb hfy z9 hb
        go_wp2_with fail
        go_ret
        exact ⟨HFTX.out, _, HQ.out, HMS.out.cl6 (by decide), .inr ⟨rfl, HD.out, by rw [HTO.out]; exact HMS.out.up (by decide)⟩⟩
      have z0 : errV pa 0 = .nilIface := rfl
      have hky := hyb hb
      rw [hb, z0]
      clear hya hyb z0 hb
      have hq5 : ∃ q5, PW w0 wy X q5 ∧ MS p q5 kW0 (recsB [le8 u, b]) 5 ∧ Put p q5 kW0 (recsB [le8 u, b]) q5.names := ⟨_, hky, HS4.out.ren (.inl rfl)⟩
      obtain ⟨q5, hy, hs5, hp5⟩ := hq5
      have HY := hid hy; have HFTY := hid (HFTX.out.trans (FT.of hfy HX.out.f hy.f)); have HS5 := hid hs5; have HP5 := hid hp5
      clear hy hfy HRN hs5 hp5 hky
      have HSD := hid (syncdir_g HY.out HE.out.s6 (by have := HS5.out.cl; have := HCL.out; omega))
      go_wp2_with fail
      refine HSD.out.mono ?_
      rintro e wz ⟨rfl, hfz, hza, hzb⟩
      have hnoq := PS.begE_no q5
      rcases hnoq with hb | hb
      rotate_left
      · have z9 : errV pa 110 = .iface 168 (.pointer (some (pa 9))) := rfl
        have HQ := hid (hza (by rw [hb]; decide)); have HD := hid (begE_down (q := q5) (by rw [hb]; decide))
        rw [hb, z9]
        have HFTZ := hid (HFTY.out.trans (FT.of hfz HY.out.f HQ.out.f))
        have HMS := hid (HS5.out.beg)
        clear hza hzb hfz z9 hb
        go_wp2_with fail
        go_ret
        exact ⟨HFTZ.out, _, HQ.out, HMS.out.cl6 (by decide), .inr ⟨rfl, HD.out, by rw [HTO.out]; exact HMS.out.up (by decide)⟩⟩
      have HUP := hid (begE_up (q := q5) hb)
      have z0 : errV pa 0 = .nilIface := rfl
      have hkz := hzb hb
      rw [hb, z0]
      clear hza hzb z0 hb
      have HZ := hid hkz; have HFTZ := hid (HFTY.out.trans (FT.of hfz HY.out.f hkz.f))
      clear hfz HSD hkz
      go_wp2_with fail
      go_ret
      exact ⟨HFTZ.out, _, HZ.out, HS5.out.sd6, .inl ⟨rfl, HUP.out, by rw [HTO.out]; exact HS5.out.done HP5.out HRI.out (.inl rfl) HUP.out⟩⟩
    | some kx =>
      have HLN := hid (len_u1 H1.out HE.out.s6 HDN.out (nm := kNew) hk)
      have HKX := hid hk
      clear hk
      go_wp2_with fail
      refine HLN.out.mono ?_
      rintro e w3 ⟨rfl, hf3⟩
      have H3 := hid (H1.out.fr hf3); have HFT3 := hid (HFT1.out.trans (FT.of0 (w0 := w0) hf3))
      have c6 := HC6.out w3 H3.out.f
      clear hf3
      go_wp2_with fail
      refine (HI0.out w3 H3.out.f).mono ?_
      rintro e w4 ⟨rfl, rfl⟩
      clear c6
      have HM0 := hid (MS0.start HRI.out ar)
      have HRM := hid (remove_g H3.out HE.out.s6 (nm := kNew) (k := kx) HKX.out (by have := HM0.out.cl; have := HCL.out; omega))
      go_wp2_with fail
      refine HRM.out.mono ?_
      rintro e w4 ⟨rfl, hf4, h4a, h4b⟩
      have hnoq := PS.begE_no (p.arm ar)
      rcases hnoq with hb | hb
      rotate_left
      · have z9 : errV pa 110 = .iface 168 (.pointer (some (pa 9))) := rfl
        have HQ := hid (h4a (by rw [hb]; decide)); have HD := hid (begE_down (q := p.arm ar) (by rw [hb]; decide))
        rw [hb, z9]
        have HFTX := hid (HFT3.out.trans (FT.of hf4 H3.out.f HQ.out.f))
        have HMS := hid ((HM0.out.ms kW0 (recsB [le8 u, b])).beg)
        clear h4a h4b hf4 z9 hb
        go_wp2_with fail
        go_ret
        exact ⟨HFTX.out, _, HQ.out, HMS.out.cl6 (by decide), .inr ⟨rfl, HD.out, by rw [HTO.out]; exact HMS.out.up (by decide)⟩⟩
      have z0 : errV pa 0 = .nilIface := rfl
      have hk4 := h4b hb
      rw [hb, z0]
      clear h4a h4b z0 hb
      have hq1 : ∃ q1, PW w0 w4 X q1 ∧ MS0 p q1 1 ∧ lk q1.names kNew = none := ⟨_, hk4, HM0.out.beg.rm, rm_none _⟩
      obtain ⟨q1, h4, hm1, hn1'⟩ := hq1
      have H4 := hid h4; have HFT4 := hid (HFT3.out.trans (FT.of hf4 H3.out.f h4.f)); have HM1 := hid hm1; have HN1 := hid hn1'
      clear h4 hm1 hn1' hk4 hf4 HRM
      have HP1C := hid (show q1.calls ≤ 1000000 ∧ q1.files ≤ 1000000 from by have := HM1.out.cl; have := HCL.out; omega)
      have HCR := hid (create_g H4.out HE.out.s6 (nm := kNew) (by decide +kernel) HN1.out HP1C.out)
      go_wp2_with fail
      refine HCR.out.mono ?_
      rintro e w5 ⟨rfl, hf5, h5a, h5b⟩
      have hnoq := PS.begE_no q1
      rcases hnoq with hb | hb
      rotate_left
      · have z9 : errV pa 110 = .iface 168 (.pointer (some (pa 9))) := rfl
        have HQ := hid (h5a (by rw [hb]; decide)); have HD := hid (begE_down (q := q1) (by rw [hb]; decide))
        rw [hb, z9]
        have HFTX := hid (HFT4.out.trans (FT.of hf5 H4.out.f HQ.out.f))
        have HMS := hid ((HM1.out.ms kW0 (recsB [le8 u, b])).beg)
        clear h5a h5b hf5 z9 hb
        go_wp2_with fail
        go_ret
        exact ⟨HFTX.out, _, HQ.out, HMS.out.cl6 (by decide), .inr ⟨rfl, HD.out, by rw [HTO.out]; exact HMS.out.up (by decide)⟩⟩
      have z0 : errV pa 0 = .nilIface := rfl
      have hk5 := h5b hb
      rw [hb, z0]
      clear h5a h5b z0 hb
      obtain ⟨F, hF, h5⟩ := hk5
      have hq2 : ∃ q2, PW w0 w5 X q2 ∧ St p q2 2 F [] 0 := ⟨_, h5, HM1.out.cr H4.out.ok.kn hF⟩
      obtain ⟨q2, h5, hs2⟩ := hq2
      have H5 := hid h5; have HFT5 := hid (HFT4.out.trans (FT.of hf5 H4.out.f h5.f)); have HS2 := hid hs2
      clear h5 hf5 hF hs2 HCR
      go_wp2_with fail
      refine (HNUM.out w5).mono ?_
      rintro e w6 ⟨v6, rfl, ho6, hf6⟩
      obtain ⟨a6, c6', hv6, -⟩ := own_len ho6
      rw [show (le8 u).length = 8 from rfl] at hv6
      subst hv6
      have HFT6 := hid (HFT5.out.trans (FT.of0 (w0 := w0) hf6))
      have hfa := (Fr.refl (fun _ => False) w6).alloc (.cells #[.slice a6 8 c6', .slice ab b.length cb] 22)
      have hrow := heap_alloc_new w6 (.cells #[.slice a6 8 c6', .slice ab b.length cb] 22)
      have HFT7 := hid (HFT6.out.trans (FT.of0 (w0 := w0) hfa))
      have H7 := hid (H5.out.fr (hf6.trans' hfa))
      have hput := put_any (fun _ => False) (fun _ => True) (.slice none 0 0) (.slice (some ⟨w6.heap.size, 0, none⟩) 2 2) [] [le8 u, b] (w6.alloc (.cells #[.slice a6 8 c6', .slice ab b.length cb] 22)) (Bs.nil' _ _) ⟨_, 2, rfl, Nat.le_refl _, by simp [maxLen], fun k hk => by
        have hk2 : k = 0 ∨ k = 1 := by simp at hk; omega
        rcases hk2 with rfl | rfl
        · exact ⟨w6.heap.size, 0, .slice a6 8 c6', rfl, trivial, by rw [cell_of_row _ _ _ _ _ _ hrow]; rfl, ((OB.bs ho6).frame hfa fun _ _ => id).mono fun _ _ _ => trivial⟩
        · obtain ⟨D, hB⟩ := HB.out _ HFT7.out
          exact ⟨w6.heap.size, 0, .slice ab b.length cb, rfl, trivial, by rw [cell_of_row _ _ _ _ _ _ hrow]; rfl, hB.mono fun _ _ _ => trivial⟩⟩ (by rw [List.nil_append, HRL.out]; have := HBL.out; omega)
      rw [List.nil_append] at hput
      have HPUT := hid hput
      clear hput hrow hfa hf6 ho6
      go_wp2_with fail
      refine HPUT.out.mono ?_
      rintro e w8 ⟨v8, rfl, ho8, hf8⟩
      have H8 := hid (H7.out.fr hf8); have HFT8 := hid (HFT7.out.trans (FT.of0 (w0 := w0) hf8))
      have hb8 := ho8.bs2
      obtain ⟨a8, c8, hv8, -⟩ := own_len ho8
      subst hv8
      have HAP := hid (append_g H8.out HE.out.s6 (nm := kNew) (k := F) HS2.out.nk _ (recsB [le8 u, b]) _ hb8 (fun k hk => .inl (Tk.bytes hk)) (by rw [HRL.out, HS2.out.m.room]; have := HS2.out.m.used HRI.out H8.out.ok.kn; have := HBL.out; omega) (by have := HS2.out.m.cl; have := HCL.out; omega))
      clear hf8 ho8 hb8 HPUT
      go_wp2_with fail
      refine HAP.out.mono ?_
      rintro e w9 ⟨rfl, hf9, h9a, h9b⟩
      have hnoq := PS.begE_no q2
      rcases hnoq with hb | hb
      rotate_left
      · have z9 : errV pa 110 = .iface 168 (.pointer (some (pa 9))) := rfl
        have HQ := hid (h9a (by rw [hb]; decide)); have HD := hid (begE_down (q := q2) (by rw [hb]; decide))
        rw [hb, z9]
        have HFTX := hid (HFT8.out.trans (FT.of hf9 H8.out.f HQ.out.f))
        have HMS := hid ((HS2.out.m.ms kW0 (recsB [le8 u, b])).beg)
        clear h9a h9b hf9 z9 hb
        go_wp2_with fail
        go_ret
        exact ⟨HFTX.out, _, HQ.out, HMS.out.cl6 (by decide), .inr ⟨rfl, HD.out, by rw [HTO.out]; exact HMS.out.up (by decide)⟩⟩
      have z0 : errV pa 0 = .nilIface := rfl
      have hk9 := h9b hb
      rw [hb, z0]
      clear h9a h9b z0 hb
      have hq3 : ∃ q3, PW w0 w9 X q3 ∧ St p q3 3 F (recsB [le8 u, b]) 0 := ⟨_, hk9, HS2.out.app _ (by rw [HRL.out]; have := HBL.out; omega)⟩
      obtain ⟨q3, h9, hs3⟩ := hq3
      have H9 := hid h9; have HFT9 := hid (HFT8.out.trans (FT.of hf9 H8.out.f h9.f)); have HS3 := hid hs3
      clear h9 hf9 HAP hs3 hk9
      have HSY := hid (sync_g H9.out HE.out.s6 (nm := kNew) (k := F) HS3.out.nk (by have := HS3.out.m.cl; have := HCL.out; omega))
      go_wp2_with fail
      refine HSY.out.mono ?_
      rintro e wx ⟨rfl, hfx, hxa, hxb⟩
      have hnoq := PS.begE_no q3
      rcases hnoq with hb | hb
      rotate_left
      · have z9 : errV pa 110 = .iface 168 (.pointer (some (pa 9))) := rfl
        have HQ := hid (hxa (by rw [hb]; decide)); have HD := hid (begE_down (q := q3) (by rw [hb]; decide))
        rw [hb, z9]
        have HFTX := hid (HFT9.out.trans (FT.of hfx H9.out.f HQ.out.f))
        have HMS := hid ((HS3.out.m.ms kW0 (recsB [le8 u, b])).beg)
        clear hxa hxb hfx z9 hb
        go_wp2_with fail
        go_ret
        exact ⟨HFTX.out, _, HQ.out, HMS.out.cl6 (by decide), .inr ⟨rfl, HD.out, by rw [HTO.out]; exact HMS.out.up (by decide)⟩⟩
      have z0 : errV pa 0 = .nilIface := rfl
      have hkx := hxb hb
      rw [hb, z0]
      clear hxa hxb z0 hb
      have hq4 : ∃ q4, PW w0 wx X q4 ∧ St p q4 4 F (recsB [le8 u, b]) (recsB [le8 u, b]).length := ⟨_, hkx, HS3.out.syn (by rw [HRL.out]; have := HBL.out; omega)⟩
      obtain ⟨q4, hx, hs4⟩ := hq4
      have HX := hid hx; have HFTX := hid (HFT9.out.trans (FT.of hfx H9.out.f hx.f)); have HS4 := hid hs4
      clear hx hfx HSY hs4 hkx
      have HRN := hid (rename_g HX.out HE.out.s6 (nm := kNew) (k := F) HS4.out.nk kW0 (by decide +kernel) (by have := HS4.out.m.cl; have := HCL.out; omega))
      go_wp2_with fail
      refine HRN.out.mono ?_
      rintro e wy ⟨rfl, hfy, hya, hyb⟩
      have hnoq := PS.begE_no q4
      rcases hnoq with hb | hb
      rotate_left
      · have z9 : errV pa 110 = .iface 168 (.pointer (some (pa 9))) := rfl
        have HQ := hid (hya (by rw [hb]; decide)); have HD := hid (begE_down (q := q4) (by rw [hb]; decide))
        rw [hb, z9]
        have HFTX := hid (HFTX.out.trans (FT.of hfy HX.out.f HQ.out.f))
        have HMS := hid ((HS4.out.m.ms kW0 (recsB [le8 u, b])).beg)
        clear hya hyb hfy z9 hb
        go_wp2_with fail
        go_ret
        exact ⟨HFTX.out, _, HQ.out, HMS.out.cl6 (by decide), .inr ⟨rfl, HD.out, by rw [HTO.out]; exact HMS.out.up (by decide)⟩⟩
      have z0 : errV pa 0 = .nilIface := rfl
      have hky := hyb hb
      rw [hb, z0]
      clear hya hyb z0 hb
      have hq5 : ∃ q5, PW w0 wy X q5 ∧ MS p q5 kW0 (recsB [le8 u, b]) 5 ∧ Put p q5 kW0 (recsB [le8 u, b]) q5.names := ⟨_, hky, HS4.out.ren (.inl rfl)⟩
      obtain ⟨q5, hy, hs5, hp5⟩ := hq5
      have HY := hid hy; have HFTY := hid (HFTX.out.trans (FT.of hfy HX.out.f hy.f)); have HS5 := hid hs5; have HP5 := hid hp5
      clear hy hfy HRN hs5 hp5 hky
      have HSD := hid (syncdir_g HY.out HE.out.s6 (by have := HS5.out.cl; have := HCL.out; omega))
      go_wp2_with fail
      refine HSD.out.mono ?_
      rintro e wz ⟨rfl, hfz, hza, hzb⟩
      have hnoq := PS.begE_no q5
      rcases hnoq with hb | hb
      rotate_left
      · have z9 : errV pa 110 = .iface 168 (.pointer (some (pa 9))) := rfl
        have HQ := hid (hza (by rw [hb]; decide)); have HD := hid (begE_down (q := q5) (by rw [hb]; decide))
        rw [hb, z9]
        have HFTZ := hid (HFTY.out.trans (FT.of hfz HY.out.f HQ.out.f))
        have HMS := hid (HS5.out.beg)
        clear hza hzb hfz z9 hb
        go_wp2_with fail
        go_ret
        exact ⟨HFTZ.out, _, HQ.out, HMS.out.cl6 (by decide), .inr ⟨rfl, HD.out, by rw [HTO.out]; exact HMS.out.up (by decide)⟩⟩
      have HUP := hid (begE_up (q := q5) hb)
      have z0 : errV pa 0 = .nilIface := rfl
      have hkz := hzb hb
      rw [hb, z0]
      clear hza hzb z0 hb
      have HZ := hid hkz; have HFTZ := hid (HFTY.out.trans (FT.of hfz HY.out.f hkz.f))
      clear hfz HSD hkz
      go_wp2_with fail
      go_ret
      exact ⟨HFTZ.out, _, HZ.out, HS5.out.sd6, .inl ⟨rfl, HUP.out, by rw [HTO.out]; exact HS5.out.done HP5.out HRI.out (.inl rfl) HUP.out⟩⟩
end Go.Proofs.YtpceckmjoicdlaaDoor
