/- The statement DiskCuts, walked. -/
import Derived.Test.YtlhbgobjhddhlaaDoorDiskT
namespace Go.Proofs.YtlhbgobjhddhlaaDoor
open Go.RowKit
variable {w0 w w' : World} {pa : Nat → Addr} {nm : ByteArray} {X : Nat}

theorem OB.snoc {base : Nat} {w : World} {v : Value} {l m : List UInt8} (h : w.ownsRow base 5 1 v (l.length + m.length) (bV l ++ bV m)) : OB base w v (l ++ m) := by
  simpa [OB, bV] using h
theorem bytes_any (D : Nat → Prop) (v : Value) (l : List UInt8) (w : World) (hB : Bs D w v l) (hl : l.length ≤ 1073741824) :
    Calls Tryd.prog 30 #[v] w fun e w' => ∃ v', e = .returned v' ∧ OB w.heap.size w' v' l ∧ Fr (fun _ => False) w w' := by
  obtain ⟨a, c, rfl, hlc, hcm, hk⟩ := hB
  have hm' : l.length ≤ 1073741824 := hl
  have HK := hid hk
  clear hk
  obtain ⟨ii, i1, i2, i3, i4⟩ := info_parts Tryd.info_byte
  go_enter Tryd.func30, Tryd.ntmps30
  go_wp2_with (at_make; refine wpList_make_own _ rfl _ _ 30 rfl w.heap.size 5 ii (.int .u8 0) 1 Tryd.underlying30 i1 i2 i3 .i64 .i64 _ l.length rfl rfl rfl (by rw [i4]; omega) (by unfold maxLen; omega) (Nat.le_refl _) ?_; intro W hown0 hgrow0)
  have hF0 : Fr (fun _ => False) w W := (Fr.of_grownBy hgrow0).mono (fun _ _ e => by cases e)
  have HF0 := hid hF0; have HO0 := hid hown0
  clear hF0 hown0 hgrow0 i1 i2 i3 i4
  go_loopw [3, 4] (fun v i wr => ∃ k : Nat, k ≤ l.length ∧ i = .int .i64 k ∧ OB w.heap.size wr v (l.take k) ∧ Fr (fun _ => False) w wr) (fun _ i _ => l.length - (intOf i).toNat)
  case atStart => exact ⟨0, Nat.zero_le _, rfl, by rw [List.take_zero]; exact HO0.out, HF0.out⟩
  case round =>
    clear HO0 HF0
    obtain ⟨k, hk, rfl, hO, hf⟩ := hrel
    by_cases hlt : k < l.length
    · obtain ⟨b, o, rfl, hDb, hcw⟩ := HK.out k hlt
      have hcr := hf.cell hcw not_false
      have ht := take_snoc l k 0 hlt
      have htl : (l.take k).length = k := by simp; omega
      have hn1 : (l.take k).length + 1 ≤ 1099511627776 := by omega
      generalize l.getD k 0 = ch at *
      have hbs : w.heap.size ≤ (wr.alloc (.cells #[.int .u8 ch.toNat] 5)).heap.size := by have := hf.size; simp; omega
      have hown := World.ownsRow.alloc hO (.cells #[.int .u8 ch.toNat] 5)
      have hc1 := cell_new1 wr (.int .u8 ch.toNat) 5 (0, 0)
      have HT := hid ht; have HTL := hid htl; have HO := hid hO; have HF := hid hf; have HOW := hid hown; have HC1 := hid hc1; have HBS := hid hbs; have HN1 := hid hn1
      clear ht htl hO hf hcw hown hc1 hbs hn1
      go_wp2_with (at_builtin; go_must (refine wpList_append1 rfl (.tmp 14) (.tmp 19) 30 rfl 5 (.int .u8 0) 1 Tryd.underlying30 Tryd.info_byte rfl _ rfl w.heap.size (l.take k).length (bV (l.take k)) HOW.out wr.heap.size 1 (.int .u8 ch.toNat) rfl HC1.out rfl HN1.out (by decide) HBS.out ?_))
      intro g cap w1 ho hf1 _
      have hF1 := OB.fr (HF.out.alloc (.cells #[.int .u8 ch.toNat] 5)) HOW.out hf1
      have hO1 : OB w.heap.size w1 (.slice (some ⟨g, 0, none⟩) (k + 1) cap) (l.take k ++ [ch]) := OB.snoc (by rw [HTL.out]; exact ho)
      rw [← HT.out] at hO1
      have HF1 := hid hF1; have HO1 := hid hO1
      clear ho hf1 hF1 hO1
      go_wp2
      go_roundw
      case rel => exact ⟨k + 1, by omega, by go_num, HO1.out, HF1.out⟩
      case measure => simp [intOf]; omega
    · obtain rfl : k = l.length := by omega
      rw [List.take_length] at hO
      have HO := hid hO; have HF := hid hf
      clear hO hf
      go_wp2
      go_ret
      exact ⟨_, rfl, HO.out, HF.out⟩
theorem cutbad_p {p : PS} (h : PW w0 w X p) (hS : S6 w0.heap.size w0 pa) (hc : p.calm) {k : Nat} (hl : lk p.names nm = some k) (n : Int) (hnn : -4611686018427387904 ≤ n ∧ n ≤ 4611686018427387904) (hn : n < 0 ∨ ((p.fs k).by_.length : Int) < n) (hb : p.calls ≤ 1000000) :
    Calls Tryd.prog 29 #[.pointer (some ⟨X, 0, none⟩), .string nm, .int .i64 n] w fun e w' => e = .returned (errV pa 105) ∧ PW w0 w' X p ∧ Fr (Tk w) w w' := by
  obtain ⟨s, h, rfl, rfl⟩ := h
  have hm := (lk_mem h.d.names.2).1 hl
  refine (cut_l rfl hS h nm (by have := h.d.sz.1 _ hm; dsimp only at this; omega) n hnn hb).mono ?_
  rintro e w2 ⟨rfl, h1, -⟩
  have hcs : calm s := hc
  have hE : cutE s nm n = 105 := by
    unfold cutE lenN
    rw [if_neg (by simp [hcs.find hl]), show lk s.names nm = some k from hl]
    exact if_pos hn
  rw [hE] at h1 ⊢
  obtain ⟨h3, h4⟩ := h1 (by decide)
  rw [hcs.b] at h3
  exact ⟨rfl, ⟨_, h3, rfl, rfl⟩, h.tk h4⟩
abbrev nmF : ByteArray := ⟨#[102]⟩
structure CutI (F : Nat) (q : List UInt8) (n : Nat) (p : PS) : Prop where
  kept : p.kept = pt [] nmF F
  ch : p.ch = []
  fF : p.fs F = ⟨1, q, n⟩
  le : n ≤ q.length
theorem CutI.back {F n : Nat} {q : List UInt8} {p : PS} (h : CutI F q n p) {picks : List Int} {L : List Nat} (hL : p.order picks L) :
    ∃ m, n ≤ m ∧ m ≤ q.length ∧ (p.crash picks L).names = pt [] nmF F ∧ ((p.crash picks L).fs F).by_ = q.take m := by
  have hk : p.kp (p.cp picks) = pt [] nmF F := by rw [cp_ch _ _ h.ch, kp0]; exact h.kept
  have hm : F ∈ L := (hL.2.1 F).2 ⟨nmF, by rw [hk]; simp [pt]⟩
  have h1 := pick_le picks (L.idxOf F + 1) ((p.fs F).by_.length - (p.fs F).sy)
  have hle := h.le
  refine ⟨n + pick picks (L.idxOf F + 1) ((p.fs F).by_.length - (p.fs F).sy), by omega, ?_, hk, ?_⟩
  · rw [h.fF] at h1 ⊢
    dsimp only at h1 ⊢
    omega
  · simp only [PS.crash]
    rw [if_pos hm]
    unfold cutF
    dsimp only
    rw [h.fF]
set_option maxRecDepth 100000 in
set_option maxHeartbeats 6400000 in
theorem diskCuts_any (pa : Nat → Addr) (vb vc vp : Value) (b c : List UInt8) (n0 : Int) (b0 : -9223372036854775808 ≤ n0) (c0 : n0 ≤ 9223372036854775807) (picks : List Int) (W : World) (hb : Bs (fun _ => True) W vb b) (hc : Bs (fun _ => True) W vc c) (hp : Is (fun _ => True) W vp picks) (hr : ∀ k, -9223372036854775808 ≤ picks.getD k 0 ∧ picks.getD k 0 ≤ 9223372036854775807) (hE : Sent17 W pa) :
    Calls Tryd.prog 6 #[vb, vc, .int .i64 n0, vp] W fun e w' => e = .returned (.bool true) ∧ Fr (fun _ => False) W w' := by
  have HFI := hid (dfirst_any (w := W) hE.s6)
  have HB := hid (hb.mono (E := fun k => k < W.heap.size) fun _ h _ => h)
  have HC := hid (hc.mono (E := fun k => k < W.heap.size) fun _ h _ => h)
  have hp' : Is (fun k => k < W.heap.size) W vp picks := by
    obtain ⟨x, y, e, h1, h2, h3⟩ := hp
    refine ⟨x, y, e, h1, h2, fun k hk => ?_⟩
    obtain ⟨b, o, u, e, -, hc, hu⟩ := h3 k hk
    exact ⟨b, o, u, e, World.block_lt_of_cell? W _ hc, hc, hu⟩
  have HP := hid hp'; have HR := hid hr; have HE := hid hE
  obtain ⟨ab, cb, rfl, hb1, -⟩ := id hb
  obtain ⟨ac, cc, rfl, hc1, -⟩ := id hc
  obtain ⟨ap, cp, rfl, -⟩ := id hp
  clear hb hc hp hp' hr hE
  go_enter Tryd.func6, Tryd.ntmps6
  go_wp2_with fail
  refine HFI.out.mono ?_
  rintro e w1 ⟨rfl, hf1⟩
  have HF1 := hid hf1
  clear hf1
  by_cases l1 : 200 < b.length
  · have l1I : (200 : Int) < b.length := by omega
    go_wp2_with fail
    go_ret
    exact ⟨rfl, HF1.out⟩
  have l1I : ¬ (200 : Int) < b.length := by omega
  by_cases l2 : 200 < c.length
  · have l2I : (200 : Int) < c.length := by omega
    go_wp2_with fail
    go_ret
    exact ⟨rfl, HF1.out⟩
  have l2I : ¬ (200 : Int) < c.length := by omega
  by_cases l4 : 5 < picks.length
  · have l4I : (5 : Int) < picks.length := by omega
    go_wp2_with fail
    go_ret
    exact ⟨rfl, HF1.out⟩
  have l4I : ¬ (5 : Int) < picks.length := by omega
  have HN := hid (new_p (HE.out.s6) HF1.out 1000)
  go_wp2_with fail
  refine HN.out.mono ?_
  rintro e w3 ⟨-, h3⟩
  obtain ⟨X, rfl, h3, -⟩ := h3 (by decide +kernel)
  have H3 := hid h3
  clear h3 l1I l2I l4I
  go_wp2_with fail
  refine (create_p H3.out HE.out.s6 (nm := nmF) ⟨rfl, rfl⟩ (by decide +kernel) rfl ⟨Nat.zero_le _, Nat.zero_le _⟩).mono ?_
  rintro e w4 ⟨rfl, F, -, h4, -⟩
  have H4 := hid h4
  clear h4
  go_wp2_with fail
  refine (syncdir_p H4.out HE.out.s6 ⟨rfl, rfl⟩ (by simp [PS.create, PS.new])).mono ?_
  rintro e w5 ⟨rfl, h5, -⟩
  have H5 := hid h5
  clear h5
  go_wp2_with fail
  refine (append_q H5.out HE.out.s6 (nm := nmF) ⟨rfl, rfl⟩ (lk_one _ _) _ b _ (HB.out.frame H5.out.f fun _ _ => id) (fun k hk => .inr hk) (by simp [PS.used, PS.syncDir, PS.create, PS.new, pt, dl, sumF]; omega) (by simp [PS.syncDir, PS.create, PS.new])).mono ?_
  rintro e w6 ⟨rfl, h6, -⟩
  have hq : ∃ p : PS, PW W w6 X p ∧ p.names = pt [] nmF F ∧ p.kept = pt [] nmF F ∧ p.ch = [] ∧ p.room = 1000 ∧ p.calls = 3 ∧ p.calm ∧ p.fs F = ⟨1, b, 0⟩ := ⟨_, h6, rfl, rfl, rfl, rfl, rfl, ⟨rfl, rfl⟩, by simp [PS.put, PS.syncDir, PS.create, PS.new]⟩
  clear h6 H5 H4 H3
  obtain ⟨p, h6, q1, q2, q3, q4, q5, q7, q8⟩ := hq
  have H6 := hid h6; have Q1 := hid q1; have Q2 := hid q2; have Q3 := hid q3; have Q4 := hid q4; have Q5 := hid q5; have Q7 := hid q7; have Q8 := hid q8
  clear h6 q1 q2 q3 q4 q5 q7 q8
  have wb3 : IntKind.i64.wrap ((b.length : Int) + 3) = (b.length : Int) + 3 := IntWalk.i64_in _ (by omega)
  have HNUM := hid (fun w => number_any n0 ((b.length : Int) + 3) w (by omega) (by omega) b0 c0)
  obtain ⟨z, hz⟩ : ∃ z : Int, n0 % ((b.length : Int) + 3) - 1 = z := ⟨_, rfl⟩
  have hzb : -1 ≤ z ∧ z ≤ b.length + 1 := by
    have := Int.emod_nonneg n0 (show (b.length : Int) + 3 ≠ 0 by omega)
    have := Int.emod_lt_of_pos n0 (show (0 : Int) < (b.length : Int) + 3 by omega)
    omega
  have wz : IntKind.i64.wrap (n0 % ((b.length : Int) + 3) - 1) = z := by rw [hz]; exact IntWalk.i64_in _ (by omega)
  clear hz b0 c0
  go_wp2_with fail
  refine (HNUM.out w6).mono ?_
  rintro e w7 ⟨rfl, rfl⟩
  have hlk : lk p.names nmF = some F := by rw [Q1.out]; exact lk_one _ _
  by_cases hbad : z < 0 ∨ (b.length : Int) < z
  · have HCB := hid (cutbad_p H6.out HE.out.s6 (nm := nmF) (k := F) Q7.out hlk z (by omega) (by rw [Q8.out]; exact hbad) (by rw [Q5.out]; decide))
    have z1 : errV pa 105 = .iface 148 (.pointer (some (pa 4))) := rfl
    have HIS := hid (fun (W2 : World) (hf : Fr (fun _ => False) W W2) => is_num W2 pa (HE.out.frame hf) 105 (by unfold ErrNo; omega) 105)
    have hdc : decide (((105 : Nat) : Int) = 105) = true := by decide
    rw [z1] at HCB
    rw [z1, hdc] at HIS
    have HLK := hid hlk
    clear z1 hdc hlk
    have hcc : ((b.length : Int) == b.length) = true := by simp
    have hcs : (z < 0) ∨ (¬ z < 0 ∧ (b.length : Int) < z) := by omega
    go_wp2_with fail
    refine HCB.out.mono ?_
    rintro e w8 ⟨rfl, h8, -⟩
    have H8 := hid h8
    clear h8 hbad
    have HLN := hid (len_p H8.out HE.out.s6 (nm := nmF) (k := F) Q7.out HLK.out)
    rw [Q8.out] at HLN
    rcases hcs with h | ⟨h, h'⟩
    all_goals
      go_wp2_with fail
      refine HLN.out.mono ?_
      rintro e w9 ⟨rfl, hf9⟩
      have H9 := hid (H8.out.fr hf9)
      clear hf9
      go_wp2_with fail
      refine (HIS.out _ H9.out.f).mono ?_
      rintro e w10 ⟨rfl, hf10⟩
      have HFin := hid (H9.out.f.trans' hf10)
      clear hf10
      go_wp2_with fail
      go_ret
      exact ⟨rfl, HFin.out⟩
  obtain ⟨n, rfl⟩ : ∃ n : Nat, z = (n : Int) := ⟨z.toNat, by omega⟩
  have hn0 : ¬ (n : Int) < 0 := by omega
  have hn1 : ¬ (b.length : Int) < n := by omega
  have HCT := hid (cut_p H6.out HE.out.s6 (nm := nmF) (k := F) Q7.out hlk n (by rw [Q8.out]; dsimp only; omega) (by rw [Q5.out]; decide))
  rw [Q8.out] at HCT
  dsimp only at HCT
  have hnn : ((n : Int) != n) = false := by simp
  clear hbad hlk
  go_wp2_with fail
  refine HCT.out.mono ?_
  rintro e w8 ⟨rfl, h8, -⟩
  have htl : (b.take n).length = n := by rw [List.length_take]; omega
  have hq : ∃ p2 : PS, PW W w8 X p2 ∧ p2.names = pt [] nmF F ∧ p2.kept = pt [] nmF F ∧ p2.ch = [] ∧ p2.room = 1000 ∧ p2.calls = 4 ∧ p2.calm ∧ p2.fs F = ⟨1, b.take n, n⟩ := ⟨_, h8, Q1.out, Q2.out, Q3.out, Q4.out, by show p.calls + 1 = 4; rw [Q5.out], Q7.out, by simp [PS.put]⟩
  clear h8
  obtain ⟨p2, h8, r1, r2, r3, r4, r5, r7, r8⟩ := hq
  have HTL := hid htl
  have H8 := hid h8; have R1 := hid r1; have R2 := hid r2; have R3 := hid r3; have R4 := hid r4; have R5 := hid r5; have R7 := hid r7; have R8 := hid r8
  have HSY := hid (synced_p h8 HE.out.s6 (nm := nmF) (k := F) r7 (by rw [r1]; exact lk_one _ _))
  rw [r8] at HSY
  have hus : p2.used = n := by rw [used_one r1, r8]; exact htl
  have HUS := hid hus
  clear h8 r1 r2 r3 r4 r5 r7 r8 htl hus
  go_wp2_with fail
  refine HSY.out.mono ?_
  rintro e w9 ⟨rfl, hf9⟩
  have H9 := hid (H8.out.fr hf9)
  clear hf9
  have HUD := hid (used_p H9.out (by rw [R5.out]; decide))
  rw [HUS.out] at HUD
  go_wp2_with fail
  refine HUD.out.mono ?_
  rintro e w10 ⟨rfl, hf10⟩
  have H10 := hid (H9.out.fr hf10)
  clear hf10
  have HAP := hid (append_q H10.out HE.out.s6 (nm := nmF) (k := F) R7.out (by rw [R1.out]; exact lk_one _ _) _ c _ (HC.out.frame H10.out.f fun _ _ => id) (fun k hk => .inr hk) (by rw [HUS.out, R4.out]; omega) (by rw [R5.out]; decide))
  go_wp2_with fail
  refine HAP.out.mono ?_
  rintro e w11 ⟨rfl, h11, -⟩
  have hq : ∃ p3 : PS, PW W w11 X p3 ∧ CutI F (b.take n ++ c) n p3 ∧ p3.calls = 5 := ⟨_, h11, ⟨R2.out, R3.out, by simp [PS.put, R8.out], by rw [List.length_append, HTL.out]; omega⟩, by show p2.calls + 1 = 5; rw [R5.out]⟩
  clear h11 HAP
  obtain ⟨p3, h11, hI, hcl⟩ := hq
  have H11 := hid h11; have HI := hid hI; have HCL := hid hcl
  clear h11 hI hcl
  go_wp2_with fail
  refine (crash_q H11.out (by rw [HCL.out]; decide) _ _ picks (HP.out.frame H11.out.f fun _ _ => id) (fun k hk => .inr hk) HR.out (by omega)).mono ?_
  rintro e w12 ⟨rfl, L, hL, h12, -⟩
  obtain ⟨m, hm1, hm2, k1, k2⟩ := HI.out.back hL
  rw [List.length_append, HTL.out] at hm2
  have hq : ∃ p4 : PS, PW W w12 X p4 ∧ p4.names = pt [] nmF F ∧ (p4.fs F).by_ = (b.take n ++ c).take m ∧ p4.calm := ⟨_, h12, k1, k2, ⟨rfl, rfl⟩⟩
  clear h12 k1 k2 hL
  obtain ⟨p4, h12, k1, k2, k3⟩ := hq
  have hml : ((b.take n ++ c).take m).length = m := by rw [List.length_take, List.length_append, HTL.out]; omega
  have H12 := hid h12; have K1 := hid k1; have K2 := hid k2; have K3 := hid k3; have HML := hid hml
  have HLN := hid (len_p h12 HE.out.s6 (nm := nmF) (k := F) k3 (by rw [k1]; exact lk_one _ _))
  rw [k2, hml] at HLN
  have g1 : ¬ (m : Int) < n := by omega
  have wnc : IntKind.i64.wrap ((n : Int) + c.length) = (n : Int) + c.length := IntWalk.i64_in _ (by omega)
  have g2 : ¬ (n : Int) + c.length < m := by omega
  clear h12 k1 k2 k3 hml
  go_wp2_with fail
  refine HLN.out.mono ?_
  rintro e w13 ⟨rfl, hf13⟩
  have H13 := hid (H12.out.fr hf13)
  clear hf13
  have HRD := hid (read_p H13.out HE.out.s6 (nm := nmF) (k := F) K3.out (by rw [K1.out]; exact lk_one _ _) 0 m (by rw [K2.out, HML.out]; omega))
  rw [show ((p4.fs F).by_.take (0 + m)).drop 0 = (b.take n ++ c).take m by rw [List.drop_zero, Nat.zero_add, K2.out, List.take_take, Nat.min_self]] at HRD
  go_wp2_with fail
  refine HRD.out.mono ?_
  rintro e w14 ⟨hf14, v14, rfl, hv14⟩
  have H14 := hid (H13.out.fr hf14)
  have hb14 := hv14.bs2
  obtain ⟨av, cv, hve, -⟩ := own_len hv14
  rw [HML.out] at hve
  subst hve
  have HV14 := hid hb14
  clear hf14 hv14 g1 g2 wnc hb14
  have hbn := (HB.out.frame H14.out.f fun _ _ => id).upto n (by omega)
  have HBY := hid (bytes_any _ _ _ w14 hbn (by rw [HTL.out]; omega))
  have hncb : (n : Int) ≤ cb ∧ (0 : Int) ≤ n := by omega
  clear hbn
  go_wp2_with fail
  refine HBY.out.mono ?_
  rintro e w15 ⟨v15, rfl, ho15, hf15⟩
  have H15 := hid (H14.out.fr hf15)
  have HV15 := hid (HV14.out.keep0 hf15)
  obtain ⟨v16, w16, hrun16, ho16, hf16⟩ := run_appendB ho15 (HC.out.frame H15.out.f fun _ _ => id) (by rw [HTL.out]; omega) hf15.size 30
  have hf16' : Fr (fun _ => False) w15 w16 ∨ True := .inr trivial
  have hf146 : Fr (fun _ => False) w14 w16 := hf15.trans (U := fun _ => False) hf16 (fun _ _ h => h) fun k hk e => by
    have := (ho15.lt k e.symm).1
    omega
  have H16 := hid (H14.out.fr hf146)
  have HV16 := hid (HV14.out.keep0 hf146)
  have hb16 := ho16.bs2
  obtain ⟨a16, c16, hve, -⟩ := own_len ho16
  have hlab : (b.take n ++ c).length = n + c.length := by rw [List.length_append, HTL.out]
  have hcap : n + c.length ≤ c16 := by
    rcases ho16.2 with ⟨e, h0⟩ | ⟨g, cap, cur, e, -, -, h1, -⟩
    · rw [hve] at e
      simp only [Value.slice.injEq] at e
      omega
    · rw [hve] at e
      simp only [Value.slice.injEq] at e
      obtain ⟨-, -, rfl⟩ := e
      omega
  subst hve
  have hB16 := hb16.upto m (by rw [hlab]; omega)
  rw [hlab] at hrun16
  have HB16 := hid hB16
  have hnI : (m : Int) ≤ c16 ∧ (0 : Int) ≤ m := by omega
  have HSB := hid (sameBytes_any _ _ _ _ _ _ w16 HV16.out HB16.out)
  rw [decide_eq_true rfl] at HSB
  obtain ⟨a15, c15, hv15e, -⟩ := own_len ho15
  rw [HTL.out] at hv15e
  subst hv15e
  clear hf15 ho15 ho16 hf16 hf16' hf146 hb16 hlab hcap hB16
  go_wp2_with (at_builtin; go_must (refine Lib.wpList_append_run _ rfl (.tmp 159) (.tmp 160) 30 30 rfl _ _ rfl rfl _ _ hrun16 ?_))
  refine HSB.out.mono ?_
  rintro e w17 ⟨rfl, q17, rfl⟩
  have HFin := hid (H16.out.f.trans' ((Fr.refl (fun _ => False) w16).drewN q17))
  clear hrun16
  go_wp2_with fail
  go_ret
  exact ⟨rfl, HFin.out⟩
end Go.Proofs.YtlhbgobjhddhlaaDoor
