/- The statement DiskTwins. -/
import Derived.Test.YtlhbgobjhddhlaaDoorDiskY
import Derived.Test.YtlhbgobjhddhlaaDoorDiskFirst
import Derived.Test.YtlhbgobjhddhlaaDoorDiskRoomsP
import Derived.Test.YtlhbgobjhddhlaaDoorRefs
import Derived.Test.YtlhbgobjhddhlaaDoorNumber
namespace Go.Proofs.YtlhbgobjhddhlaaDoor
open Go.RowKit
variable {w0 w w' : World} {pa : Nat → Addr} {nm : ByteArray} {X Y X1 X2 : Nat} {q q1 q2 q' : PS} {D D1 D2 : Nat → Prop} {s : DS}

theorem conv_two (w : World) (k : Nat) (hk : k < 256) : (convert 30 9 (.slice (some ⟨w.heap.size, 0, none⟩) 1 1)).run Tryd.prog (w.alloc (.cells #[.int .u8 (k : Int)] 5)) = .ok (.string (nm1 k)) (w.alloc (.cells #[.int .u8 (k : Int)] 5)) := by
  have hkc : (UInt8.ofNat k).toNat = k := by rw [UInt8.toNat_ofNat']; omega
  have hB : Bs (fun q => q = w.heap.size) (w.alloc (.cells #[.int .u8 (k : Int)] 5)) (.slice (some ⟨w.heap.size, 0, none⟩) 1 1) [UInt8.ofNat k] := by
    have := Bs.row (w := w.alloc (.cells #[.int .u8 (k : Int)] 5)) (g := w.heap.size) (l := [UInt8.ofNat k]) (fz := (0, 0)) (by rw [heap_alloc_new w]; simp [bV, hkc]) (by simp [maxLen])
    simpa using this
  exact conv_bytes hB 30 5 9 Tryd.underlying30 Tryd.underlying5 Tryd.underlying9
/-- Two disks beside one another. -/
def Both (W wr : World) (X1 X2 : Nat) (q1 q2 : PS) : Prop := ∃ D1 D2, TW W wr X1 q1 D1 ∧ TW W wr X2 q2 D2 ∧ ∀ k, D1 k → ¬ D2 k
theorem Both.fr (h : Both w0 w X1 X2 q1 q2) (hf : Fr (fun _ => False) w w') : Both w0 w' X1 X2 q1 q2 := by
  obtain ⟨D1, D2, h1, h2, h3⟩ := h
  exact ⟨D1, D2, h1.fr hf, h2.fr hf, h3⟩
theorem Both.fst (h1 : TW w0 w X1 q1 D1) (h2 : TW w0 w X2 q2 D2) (ha : ∀ k, D1 k → ¬ D2 k) (hs : St1 w0 w w' X1 D1 q') : Both w0 w' X1 X2 q' q2 := by
  obtain ⟨D', h3, h4, h5, -⟩ := St1.other h1 hs h2 ha
  exact ⟨D', D2, h3, h4, h5⟩
theorem Both.snd (h1 : TW w0 w X1 q1 D1) (h2 : TW w0 w X2 q2 D2) (ha : ∀ k, D1 k → ¬ D2 k) (hs : St1 w0 w w' X2 D2 q') : Both w0 w' X1 X2 q1 q' := by
  obtain ⟨D', h3, h4, h5, -⟩ := St1.other h2 hs h1 fun k hk hd => ha k hd hk
  exact ⟨D1, D', h4, h3, fun k hk hd => h5 k hd hk⟩
theorem Both.f (h : Both w0 w X1 X2 q1 q2) : Fr (fun _ => False) w0 w := by
  obtain ⟨D1, D2, h1, -⟩ := h
  exact h1.f
/-- What a word does to an image. -/
def opQ (m : Nat) (nm : ByteArray) (b : List UInt8) (q : PS) : PS := if m = 0 then q.createQ nm else if m = 1 ∨ m = 2 then q.appQ nm b else if m = 3 then q.syncQ nm else q.dirQ
theorem beg_cl (q : PS) : q.beg.calls = q.calls ∧ q.beg.files = q.files := ⟨q.beg_same.2.2.2.2.2.1, q.beg_same.2.2.2.2.2.2⟩
theorem upd_cl (q : PS) (nm : ByteArray) (g : FS → FS) : (q.upd nm g).calls ≤ q.calls + 1 ∧ (q.upd nm g).files ≤ q.files + 1 := by
  have h := beg_cl q
  unfold PS.upd
  split
  · show q.beg.calls + 1 ≤ _ ∧ q.beg.files ≤ _; omega
  · omega
theorem opQ_cl (m : Nat) (nm : ByteArray) (b : List UInt8) (q : PS) : (opQ m nm b q).calls ≤ q.calls + 1 ∧ (opQ m nm b q).files ≤ q.files + 1 := by
  have h := beg_cl q
  unfold opQ
  split
  · unfold PS.createQ
    split
    · show q.beg.calls + 1 ≤ _ ∧ q.beg.files + 1 ≤ _; omega
    · omega
  split
  · unfold PS.appQ
    split
    · exact upd_cl _ _ _
    · omega
  split
  · unfold PS.syncQ
    split
    · exact upd_cl _ _ _
    · omega
  · unfold PS.dirQ
    split
    · show q.beg.calls + 1 ≤ _ ∧ q.beg.files ≤ _; omega
    · omega
/-- Remove, on any disk. -/
theorem remove_n (hS : S6 w0.heap.size w0 pa) (h : LW w0 w s) (hX : s.X = Y) (hn : nm.size ≤ 1048576) (hc : s.calls ≤ 1000000) :
    Calls Tryd.prog 18 #[.pointer (some ⟨Y, 0, none⟩), .string nm] w fun e w' => ∃ c s', e = .returned (errV pa c) ∧ LW w0 w' s' ∧ s'.X = Y ∧ s'.calls ≤ s.calls + 1 ∧ Fr (DSet s) w w' ∧ ∀ k, DSet s' k → DSet s k ∨ w.heap.size ≤ k := by
  subst hX
  obtain ⟨b1, b2, b3, b4, -, b6, b7, b8, b9, b10, -⟩ := beginS_same s
  refine (remove_any pa (h.s6 hS) h.d nm hn hc h.le).mono ?_
  rintro e w2 ⟨rfl, h1, h2⟩
  by_cases h0 : findE s nm = 0
  · obtain ⟨cv, hcv, hd, hf⟩ := h2 h0
    have hl := h.to hd hf fun _ => cset_dset
    refine ⟨_, _, rfl, hl.1, b1, by show (beginS s).calls + 1 ≤ _; omega, hl.2, ds_new (.inl b1) (.inl b2) (.inl b3) hcv fun k hk => .inl ?_⟩
    rcases hk with ⟨n, hn⟩ | hk | ⟨c', hc', e⟩
    · unfold changeS at hn
      dsimp only at hn
      rcases applyM_from hn with h1 | h1
      · rw [b6] at h1; exact .inl ⟨n, h1⟩
      · cases h1
    · unfold changeS at hk
      dsimp only at hk
      rw [b7] at hk
      exact .inr (.inl hk)
    · unfold changeS at hc'
      dsimp only at hc'
      rw [b8] at hc'
      rcases List.mem_append.1 hc' with h1 | h1
      · exact .inr (.inr ⟨c', h1, e⟩)
      · simp only [List.mem_cons, List.not_mem_nil, or_false] at h1
        rw [h1] at e
        cases e
  · obtain ⟨h3, h4⟩ := h1 h0
    have hl := h.to h3 h4 fun _ => x_dset
    exact ⟨_, _, rfl, hl.1, b1, by omega, hl.2, fun k hk => .inl (dset_beg k hk)⟩
/-- Beside a third disk. -/
def Aside (w0 w : World) (X1 X2 : Nat) (q1 q2 : PS) (s : DS) : Prop := ∃ D1 D2, TW w0 w X1 q1 D1 ∧ TW w0 w X2 q2 D2 ∧ (∀ k, D1 k → ¬ D2 k) ∧ LW w0 w s ∧ ∀ k, DSet s k → ¬ D1 k ∧ ¬ D2 k
theorem Aside.go {s' : DS} (h : Aside w0 w X1 X2 q1 q2 s) (hl : LW w0 w' s') (hf : Fr (DSet s) w w') (hn : ∀ k, DSet s' k → DSet s k ∨ w.heap.size ≤ k) : Aside w0 w' X1 X2 q1 q2 s' := by
  obtain ⟨D1, D2, h1, h2, h3, h4, h5⟩ := h
  refine ⟨D1, D2, h1.frame hf (fun k hk hn => (h5 k hn).1 hk) (fun k hk hn => h4.d.bytes hk hn) (fun k hk hn => by have := h4.d.lo k hn; omega), h2.frame hf (fun k hk hn => (h5 k hn).2 hk) (fun k hk hn => h4.d.bytes hk hn) (fun k hk hn => by have := h4.d.lo k hn; omega), h3, hl, fun k hk => ?_⟩
  rcases hn k hk with e | e
  · exact h5 k e
  · exact ⟨fun hd => by have := h1.lt hd; omega, fun hd => by have := h2.lt hd; omega⟩
theorem Aside.both (h : Aside w0 w X1 X2 q1 q2 s) : Both w0 w X1 X2 q1 q2 := by
  obtain ⟨D1, D2, h1, h2, h3, -⟩ := h
  exact ⟨D1, D2, h1, h2, h3⟩
theorem Aside.end (h : Aside w0 w X1 X2 q1 q2 s) (hf : Fr (DSet s) w w') : Both w0 w' X1 X2 q1 q2 := by
  obtain ⟨D1, D2, h1, h2, h3, h4, h5⟩ := h
  exact ⟨D1, D2, h1.frame hf (fun k hk hn => (h5 k hn).1 hk) (fun k hk hn => h4.d.bytes hk hn) (fun k hk hn => by have := h4.d.lo k hn; omega), h2.frame hf (fun k hk hn => (h5 k hn).2 hk) (fun k hk hn => h4.d.bytes hk hn) (fun k hk hn => by have := h4.d.lo k hn; omega), h3⟩
theorem Is.below' {v : Value} {l : List Int} (h : Is (fun _ => True) w v l) : Is (fun k => k < w.heap.size) w v l := by
  obtain ⟨x, y, e, h1, h2, h3⟩ := h
  refine ⟨x, y, e, h1, h2, fun k hk => ?_⟩
  obtain ⟨b, o, u, e, -, hc, hu⟩ := h3 k hk
  exact ⟨b, o, u, e, World.block_lt_of_cell? w _ hc, hc, hu⟩
set_option maxRecDepth 100000 in
set_option maxHeartbeats 25600000 in
theorem diskTwins_any (pa : Nat → Addr) (va vb : Value) (l picks : List Int) (W : World) (hl : Is (fun _ => True) W va l) (hr : ∀ k, -9223372036854775808 ≤ l.getD k 0 ∧ l.getD k 0 ≤ 9223372036854775807) (hp : Is (fun _ => True) W vb picks) (hrp : ∀ k, -9223372036854775808 ≤ picks.getD k 0 ∧ picks.getD k 0 ≤ 9223372036854775807) (hE : S6 W.heap.size W pa) :
    Calls Tryd.prog 10 #[va, vb] W fun e w' => e = .returned (.bool true) ∧ Fr (fun _ => False) W w' := by
  have HFI := hid (dfirst_any (w := W) hE)
  have HPK := hid hp.below'
  obtain ⟨a, c, rfl, h1, h2, hc⟩ := id hl
  obtain ⟨ap, cp, rfl, hp1, hp2, -⟩ := id hp
  have hm1 : l.length ≤ 9223372036854775807 := Nat.le_trans h1 h2
  have hm2 : picks.length ≤ 9223372036854775807 := Nat.le_trans hp1 hp2
  have HC := hid hc; have HRR := hid hr; have HE := hid hE; have HRP := hid hrp
  clear hl hr hE hc hp hrp h1 h2 hp1 hp2
  go_enter Tryd.func10, Tryd.ntmps10
  go_wp2_with fail
  refine HFI.out.mono ?_
  rintro e w1 ⟨rfl, hf1⟩
  have HF1 := hid hf1
  clear hf1
  by_cases l1 : 20 < l.length
  · have l1I : (20 : Int) < l.length := by omega
    go_wp2_with fail
    go_ret
    exact ⟨rfl, HF1.out⟩
  have l1I : ¬ (20 : Int) < l.length := by omega
  by_cases l2 : 8 < picks.length
  · have l2I : (8 : Int) < picks.length := by omega
    go_wp2_with fail
    go_ret
    exact ⟨rfl, HF1.out⟩
  have l2I : ¬ (8 : Int) < picks.length := by omega
  have HLP := hid (show l.length ≤ 20 ∧ picks.length ≤ 8 by omega)
  have HN := hid (new_t HE.out HF1.out 300 (by decide +kernel))
  go_wp2_with fail
  refine HN.out.mono ?_
  rintro e w2 ⟨X1, D1, rfl, h1, -, hf2⟩
  have HN2 := hid (new_t HE.out (HF1.out.trans' hf2) 300 (by decide +kernel))
  have HT1 := hid h1
  clear h1 hf2 HN
  go_wp2_with fail
  refine HN2.out.mono ?_
  rintro e w3 ⟨X2, D2, rfl, h2, hn2, hf3⟩
  have HB0 := hid (show Both W w3 X1 X2 (PS.new 300) (PS.new 300) from ⟨D1, D2, HT1.out.fr hf3, h2, fun k hk hd => by have := HT1.out.lt hk; have := hn2 k hd; omega⟩)
  clear h2 hn2 hf3 HN2 l1 l2 l1I l2I HT1
  go_wp2_with fail
  go_loopw [10, 11, 12, 13, 14] (fun iv _ _ _ _ wr => ∃ (i : Nat) (q : PS), i ≤ l.length ∧ iv = .int .i64 i ∧ Hid (Both W wr X1 X2 q q) ∧ Hid (q.calls ≤ i ∧ q.files ≤ i)) (fun iv _ _ _ _ _ => l.length - (intOf iv).toNat)
  case atStart => exact ⟨0, _, Nat.zero_le _, rfl, HB0, hid ⟨Nat.le_refl _, Nat.le_refl _⟩⟩
  case round =>
    clear HB0
    obtain ⟨i, q, hi, rfl, HB, HQ⟩ := hrel
    by_cases hlt : i < l.length
    · have hltI : (i : Int) < l.length := by omega
      obtain ⟨x, o, y, rfl, -, hcell, rfl⟩ := HC.out i hlt
      obtain ⟨z, hz⟩ : ∃ z, l.getD i 0 = z := ⟨_, rfl⟩
      have hzr := HRR.out i
      rw [hz] at hcell hzr
      have HZ := hid hcell
      have num : ∀ (n m : Int) (hm : 0 < m), ∃ k : Nat, n % m = (k : Int) ∧ (k : Int) < m := fun n m hm => ⟨(n % m).toNat, by have := Int.emod_nonneg n (show m ≠ 0 by omega); omega, by have := Int.emod_lt_of_pos n hm; have := Int.emod_nonneg n (show m ≠ 0 by omega); omega⟩
      obtain ⟨x1, hx1, hb1⟩ := num z 3 (by decide)
      obtain ⟨x2, hx2, hb2⟩ := num (z.tdiv 3) 5 (by decide)
      obtain ⟨x3, hx3, hb3⟩ := num z 40 (by decide)
      have HN1 := hid (fun w => number_any z 3 w (by omega) (by omega) hzr.1 hzr.2)
      have ht3 : -9223372036854775808 ≤ z.tdiv 3 ∧ z.tdiv 3 ≤ 9223372036854775807 := by
        have h1 := Int.mul_tdiv_add_tmod z 3
        have h2 := Int.tmod_lt_of_pos z (show (0 : Int) < 3 by decide)
        have h3 := Int.tmod_lt_of_pos (-z) (show (0 : Int) < 3 by decide)
        rw [Int.neg_tmod] at h3
        omega
      have HN2 := hid (fun w => number_any (z.tdiv 3) 5 w (by omega) (by omega) ht3.1 ht3.2)
      have HN3 := hid (fun w => number_any z 40 w (by omega) (by omega) hzr.1 hzr.2)
      rw [hx1] at HN1
      rw [hx2] at HN2
      rw [hx3] at HN3
      have wt3 : IntKind.i64.wrap (z.tdiv 3) = z.tdiv 3 := IntWalk.i64_in _ (by omega)
      have HWT := hid wt3
      clear hz hx1 hx2 hx3 num
      obtain ⟨k1, hk1⟩ : ∃ k, 97 + x1 = k := ⟨_, rfl⟩
      have wk1 : IntKind.i64.wrap ((97 : Int) + x1) = (k1 : Int) := by rw [show (97 : Int) + x1 = (k1 : Int) by omega]; exact IntWalk.i64_in _ (by omega)
      have wu1 : IntKind.u8.wrap (k1 : Int) = (k1 : Int) := IntWalk.u8_in _ (by omega)
      have HNS := hid (show (nm1 k1).size ≤ 1048576 from Nat.le_trans (Nat.le_of_eq (show (nm1 k1).size = 1 from rfl)) (by decide))
      have hcell' := HB.out.f.cell HZ.out not_false
      have hcv1 := conv_two wr k1 (by omega)
      have hfa := (Fr.refl (fun _ => False) wr).alloc (.cells #[.int .u8 (k1 : Int)] 5)
      have HBA := hid (HB.out.fr hfa)
      have HX2 := hid (show x2 < 5 by omega); have HX3 := hid (show x3 < 40 by omega); have HLT := hid hlt; have HII := hid hi
      clear hk1 hb1 hb2 hb3 hzr ht3 hfa HB wt3
      go_wp2_with fail
      refine (HN1.out _).mono ?_
      rintro e w7 ⟨rfl, rfl⟩
      go_wp2_with fail
      generalize wr.alloc (.cells #[.int .u8 (k1 : Int)] 5) = wA at *
      clear hcv1 hcell' wk1 wu1
      obtain ⟨nm, hnm⟩ : ∃ nm, nm1 k1 = nm := ⟨_, rfl⟩
      rw [hnm] at HNS ⊢
      clear hnm
      obtain ⟨q', hq'⟩ : ∃ q', opQ x2 nm (List.replicate x3 0) q = q' := ⟨_, rfl⟩
      have HQ' := hid hq'
      have HQC := hid (show q'.calls ≤ q.calls + 1 ∧ q'.files ≤ q.files + 1 from by rw [← hq']; exact opQ_cl _ _ _ _)
      clear hq'
      go_loopw [12, 13] (fun kv _ wr => ∃ k : Nat, k ≤ 2 ∧ kv = .int .i64 k ∧ Hid (Both W wr X1 X2 (if 1 ≤ k then q' else q) (if 2 ≤ k then q' else q))) (fun kv _ _ => 2 - (intOf kv).toNat)
      case atStart => exact ⟨0, Nat.zero_le _, rfl, HBA⟩
      case round =>
        clear HBA
        obtain ⟨k, hk, rfl, HB⟩ := hrel
        have hk3 : k = 0 ∨ k = 1 ∨ k = 2 := by omega
        rcases hk3 with rfl | rfl | rfl
        · rw [if_neg (by omega), if_neg (by omega)] at HB
          go_upto_region 18 with fail
          have hfb := (Fr.refl (fun _ => False) wr).alloc (.cells #[.pointer (some ⟨X1, 0, none⟩), .pointer (some ⟨X2, 0, none⟩)] 25)
          have HBB := hid (HB.out.fr hfb)
          clear hfb HB
          generalize wr.alloc (.cells #[.pointer (some ⟨X1, 0, none⟩), .pointer (some ⟨X2, 0, none⟩)] 25) = wB at *
          have HB := HBB
          clear HBB
          have hcellB := HB.out.f.cell HZ.out not_false
          have wt3 := HWT.out
          go_wp2_with fail
          refine (HN2.out _).mono ?_
          rintro e w8 ⟨rfl, rfl⟩
          clear wt3
          have hx5 : x2 = 0 ∨ x2 = 1 ∨ x2 = 2 ∨ x2 = 3 ∨ x2 = 4 := by have := HX2.out; omega
          rcases hx5 with rfl | rfl | rfl | rfl | rfl
          · clear hcellB
            obtain ⟨D1, D2, h1, h2, h3⟩ := HB.out
            have HT1 := hid h1; have HT2 := hid h2; have HT3 := hid h3
            have hct := create_t h1 HE.out HNS.out ⟨by have := HQ.out; have := HLP.out; have := HLT.out; omega, by have := HQ.out; have := HLP.out; have := HLT.out; omega⟩
            have HCT := hid hct
            clear h1 h2 h3 hct
            go_wp2_with fail
            refine HCT.out.mono ?_
            rintro e w9 ⟨rfl, hs⟩
            have hq9 : q.createQ nm = q' := by rw [← HQ'.out]; rfl
            rw [hq9] at hs
            have hb9 : Both W w9 X1 X2 q' q := Both.fst HT1.out HT2.out HT3.out hs
            have HB9 := hid hb9
            clear hs hq9 hb9 HCT HT1 HT2 HT3 HB
            generalize errV pa _ = ev at *
            go_wp2_with fail
            exact ⟨⟨1, by omega, rfl, hid (by rw [if_pos (by omega), if_neg (by omega)]; exact HB9.out)⟩, by simp [intOf]⟩
          · go_wp2_with fail
            refine (HN3.out _).mono ?_
            rintro e w8 ⟨rfl, rfl⟩
            obtain ⟨w6, hmk, hf6, hB6, hBB6⟩ := mk_bytes x3 (by have := HX3.out; omega) wB x3 rfl
            have HB6 := hid (HB.out.fr hf6); have HBS := hid hB6; have HBY := hid hBB6
            clear hf6 hB6 hBB6 hcellB HB
            have HB := HB6
            clear HB6
            obtain ⟨D1, D2, h1, h2, h3⟩ := HB.out
            have HT1 := hid h1; have HT2 := hid h2; have HT3 := hid h3
            have hct := append_t h1 HE.out HNS.out _ _ _ HBS.out (fun k hk => by rw [hk]; exact h1.bb HBY.out) (by simp; have := HX3.out; omega) (by have := HQ.out; have := HLP.out; have := HLT.out; omega)
            have HCT := hid hct
            clear h1 h2 h3 hct
            go_wp2_with fail
            refine HCT.out.mono ?_
            rintro e w9 ⟨rfl, hs⟩
            have hq9 : q.appQ nm (List.replicate x3 0) = q' := by rw [← HQ'.out]; rfl
            rw [hq9] at hs
            have hb9 : Both W w9 X1 X2 q' q := Both.fst HT1.out HT2.out HT3.out hs
            have HB9 := hid hb9
            clear hs hq9 hb9 HCT HT1 HT2 HT3 HB
            generalize errV pa _ = ev at *
            go_wp2_with fail
            exact ⟨⟨1, by omega, rfl, hid (by rw [if_pos (by omega), if_neg (by omega)]; exact HB9.out)⟩, by simp [intOf]⟩
          · go_wp2_with fail
            refine (HN3.out _).mono ?_
            rintro e w8 ⟨rfl, rfl⟩
            obtain ⟨w6, hmk, hf6, hB6, hBB6⟩ := mk_bytes x3 (by have := HX3.out; omega) wB x3 rfl
            have HB6 := hid (HB.out.fr hf6); have HBS := hid hB6; have HBY := hid hBB6
            clear hf6 hB6 hBB6 hcellB HB
            have HB := HB6
            clear HB6
            obtain ⟨D1, D2, h1, h2, h3⟩ := HB.out
            have HT1 := hid h1; have HT2 := hid h2; have HT3 := hid h3
            have hct := append_t h1 HE.out HNS.out _ _ _ HBS.out (fun k hk => by rw [hk]; exact h1.bb HBY.out) (by simp; have := HX3.out; omega) (by have := HQ.out; have := HLP.out; have := HLT.out; omega)
            have HCT := hid hct
            clear h1 h2 h3 hct
            go_wp2_with fail
            refine HCT.out.mono ?_
            rintro e w9 ⟨rfl, hs⟩
            have hq9 : q.appQ nm (List.replicate x3 0) = q' := by rw [← HQ'.out]; rfl
            rw [hq9] at hs
            have hb9 : Both W w9 X1 X2 q' q := Both.fst HT1.out HT2.out HT3.out hs
            have HB9 := hid hb9
            clear hs hq9 hb9 HCT HT1 HT2 HT3 HB
            generalize errV pa _ = ev at *
            go_wp2_with fail
            exact ⟨⟨1, by omega, rfl, hid (by rw [if_pos (by omega), if_neg (by omega)]; exact HB9.out)⟩, by simp [intOf]⟩
          · clear hcellB
            obtain ⟨D1, D2, h1, h2, h3⟩ := HB.out
            have HT1 := hid h1; have HT2 := hid h2; have HT3 := hid h3
            have hct := sync_t h1 HE.out HNS.out (by have := HQ.out; have := HLP.out; have := HLT.out; omega)
            have HCT := hid hct
            clear h1 h2 h3 hct
            go_wp2_with fail
            refine HCT.out.mono ?_
            rintro e w9 ⟨rfl, hs⟩
            have hq9 : q.syncQ nm = q' := by rw [← HQ'.out]; rfl
            rw [hq9] at hs
            have hb9 : Both W w9 X1 X2 q' q := Both.fst HT1.out HT2.out HT3.out hs
            have HB9 := hid hb9
            clear hs hq9 hb9 HCT HT1 HT2 HT3 HB
            generalize errV pa _ = ev at *
            go_wp2_with fail
            exact ⟨⟨1, by omega, rfl, hid (by rw [if_pos (by omega), if_neg (by omega)]; exact HB9.out)⟩, by simp [intOf]⟩
          · clear hcellB
            obtain ⟨D1, D2, h1, h2, h3⟩ := HB.out
            have HT1 := hid h1; have HT2 := hid h2; have HT3 := hid h3
            have hct := syncdir_t h1 HE.out (by have := HQ.out; have := HLP.out; have := HLT.out; omega)
            have HCT := hid hct
            clear h1 h2 h3 hct
            go_wp2_with fail
            refine HCT.out.mono ?_
            rintro e w9 ⟨rfl, hs⟩
            have hq9 : q.dirQ = q' := by rw [← HQ'.out]; rfl
            rw [hq9] at hs
            have hb9 : Both W w9 X1 X2 q' q := Both.fst HT1.out HT2.out HT3.out hs
            have HB9 := hid hb9
            clear hs hq9 hb9 HCT HT1 HT2 HT3 HB
            generalize errV pa _ = ev at *
            go_wp2_with fail
            exact ⟨⟨1, by omega, rfl, hid (by rw [if_pos (by omega), if_neg (by omega)]; exact HB9.out)⟩, by simp [intOf]⟩
        · rw [if_pos (by omega), if_neg (by omega)] at HB
          go_upto_region 18 with fail
          have hfb := (Fr.refl (fun _ => False) wr).alloc (.cells #[.pointer (some ⟨X1, 0, none⟩), .pointer (some ⟨X2, 0, none⟩)] 25)
          have HBB := hid (HB.out.fr hfb)
          clear hfb HB
          generalize wr.alloc (.cells #[.pointer (some ⟨X1, 0, none⟩), .pointer (some ⟨X2, 0, none⟩)] 25) = wB at *
          have HB := HBB
          clear HBB
          have hcellB := HB.out.f.cell HZ.out not_false
          have wt3 := HWT.out
          go_wp2_with fail
          refine (HN2.out _).mono ?_
          rintro e w8 ⟨rfl, rfl⟩
          clear wt3
          have hx5 : x2 = 0 ∨ x2 = 1 ∨ x2 = 2 ∨ x2 = 3 ∨ x2 = 4 := by have := HX2.out; omega
          rcases hx5 with rfl | rfl | rfl | rfl | rfl
          · clear hcellB
            obtain ⟨D1, D2, h1, h2, h3⟩ := HB.out
            have HT1 := hid h1; have HT2 := hid h2; have HT3 := hid h3
            have hct := create_t h2 HE.out HNS.out ⟨by have := HQ.out; have := HLP.out; have := HLT.out; omega, by have := HQ.out; have := HLP.out; have := HLT.out; omega⟩
            have HCT := hid hct
            clear h1 h2 h3 hct
            go_wp2_with fail
            refine HCT.out.mono ?_
            rintro e w9 ⟨rfl, hs⟩
            have hq9 : q.createQ nm = q' := by rw [← HQ'.out]; rfl
            rw [hq9] at hs
            have hb9 : Both W w9 X1 X2 q' q' := Both.snd HT1.out HT2.out HT3.out hs
            have HB9 := hid hb9
            clear hs hq9 hb9 HCT HT1 HT2 HT3 HB
            generalize errV pa _ = ev at *
            go_wp2_with fail
            exact ⟨⟨2, by omega, rfl, hid (by rw [if_pos (by omega), if_pos (by omega)]; exact HB9.out)⟩, by simp [intOf]⟩
          · go_wp2_with fail
            refine (HN3.out _).mono ?_
            rintro e w8 ⟨rfl, rfl⟩
            obtain ⟨w6, hmk, hf6, hB6, hBB6⟩ := mk_bytes x3 (by have := HX3.out; omega) wB x3 rfl
            have HB6 := hid (HB.out.fr hf6); have HBS := hid hB6; have HBY := hid hBB6
            clear hf6 hB6 hBB6 hcellB HB
            have HB := HB6
            clear HB6
            obtain ⟨D1, D2, h1, h2, h3⟩ := HB.out
            have HT1 := hid h1; have HT2 := hid h2; have HT3 := hid h3
            have hct := append_t h2 HE.out HNS.out _ _ _ HBS.out (fun k hk => by rw [hk]; exact h2.bb HBY.out) (by simp; have := HX3.out; omega) (by have := HQ.out; have := HLP.out; have := HLT.out; omega)
            have HCT := hid hct
            clear h1 h2 h3 hct
            go_wp2_with fail
            refine HCT.out.mono ?_
            rintro e w9 ⟨rfl, hs⟩
            have hq9 : q.appQ nm (List.replicate x3 0) = q' := by rw [← HQ'.out]; rfl
            rw [hq9] at hs
            have hb9 : Both W w9 X1 X2 q' q' := Both.snd HT1.out HT2.out HT3.out hs
            have HB9 := hid hb9
            clear hs hq9 hb9 HCT HT1 HT2 HT3 HB
            generalize errV pa _ = ev at *
            go_wp2_with fail
            exact ⟨⟨2, by omega, rfl, hid (by rw [if_pos (by omega), if_pos (by omega)]; exact HB9.out)⟩, by simp [intOf]⟩
          · go_wp2_with fail
            refine (HN3.out _).mono ?_
            rintro e w8 ⟨rfl, rfl⟩
            obtain ⟨w6, hmk, hf6, hB6, hBB6⟩ := mk_bytes x3 (by have := HX3.out; omega) wB x3 rfl
            have HB6 := hid (HB.out.fr hf6); have HBS := hid hB6; have HBY := hid hBB6
            clear hf6 hB6 hBB6 hcellB HB
            have HB := HB6
            clear HB6
            obtain ⟨D1, D2, h1, h2, h3⟩ := HB.out
            have HT1 := hid h1; have HT2 := hid h2; have HT3 := hid h3
            have hct := append_t h2 HE.out HNS.out _ _ _ HBS.out (fun k hk => by rw [hk]; exact h2.bb HBY.out) (by simp; have := HX3.out; omega) (by have := HQ.out; have := HLP.out; have := HLT.out; omega)
            have HCT := hid hct
            clear h1 h2 h3 hct
            go_wp2_with fail
            refine HCT.out.mono ?_
            rintro e w9 ⟨rfl, hs⟩
            have hq9 : q.appQ nm (List.replicate x3 0) = q' := by rw [← HQ'.out]; rfl
            rw [hq9] at hs
            have hb9 : Both W w9 X1 X2 q' q' := Both.snd HT1.out HT2.out HT3.out hs
            have HB9 := hid hb9
            clear hs hq9 hb9 HCT HT1 HT2 HT3 HB
            generalize errV pa _ = ev at *
            go_wp2_with fail
            exact ⟨⟨2, by omega, rfl, hid (by rw [if_pos (by omega), if_pos (by omega)]; exact HB9.out)⟩, by simp [intOf]⟩
          · clear hcellB
            obtain ⟨D1, D2, h1, h2, h3⟩ := HB.out
            have HT1 := hid h1; have HT2 := hid h2; have HT3 := hid h3
            have hct := sync_t h2 HE.out HNS.out (by have := HQ.out; have := HLP.out; have := HLT.out; omega)
            have HCT := hid hct
            clear h1 h2 h3 hct
            go_wp2_with fail
            refine HCT.out.mono ?_
            rintro e w9 ⟨rfl, hs⟩
            have hq9 : q.syncQ nm = q' := by rw [← HQ'.out]; rfl
            rw [hq9] at hs
            have hb9 : Both W w9 X1 X2 q' q' := Both.snd HT1.out HT2.out HT3.out hs
            have HB9 := hid hb9
            clear hs hq9 hb9 HCT HT1 HT2 HT3 HB
            generalize errV pa _ = ev at *
            go_wp2_with fail
            exact ⟨⟨2, by omega, rfl, hid (by rw [if_pos (by omega), if_pos (by omega)]; exact HB9.out)⟩, by simp [intOf]⟩
          · clear hcellB
            obtain ⟨D1, D2, h1, h2, h3⟩ := HB.out
            have HT1 := hid h1; have HT2 := hid h2; have HT3 := hid h3
            have hct := syncdir_t h2 HE.out (by have := HQ.out; have := HLP.out; have := HLT.out; omega)
            have HCT := hid hct
            clear h1 h2 h3 hct
            go_wp2_with fail
            refine HCT.out.mono ?_
            rintro e w9 ⟨rfl, hs⟩
            have hq9 : q.dirQ = q' := by rw [← HQ'.out]; rfl
            rw [hq9] at hs
            have hb9 : Both W w9 X1 X2 q' q' := Both.snd HT1.out HT2.out HT3.out hs
            have HB9 := hid hb9
            clear hs hq9 hb9 HCT HT1 HT2 HT3 HB
            generalize errV pa _ = ev at *
            go_wp2_with fail
            exact ⟨⟨2, by omega, rfl, hid (by rw [if_pos (by omega), if_pos (by omega)]; exact HB9.out)⟩, by simp [intOf]⟩
        · go_wp2_with fail
          obtain ⟨D1, D2, h1, h2, h3⟩ := HB.out
          rw [if_pos (by omega)] at h1 h2
          have HCL := hid (clone_t h1 (by have := HQC.out; have := HQ.out; have := HLP.out; have := HLT.out; omega))
          have HT1 := hid h1; have HT2 := hid h2; have HT3 := hid h3
          clear h1 h2 h3 HB
          refine HCL.out.mono ?_
          rintro e w8 ⟨hf8, Y, sc, rfl, hl8, hY, hcl, hfi, hnw⟩
          have HAS := hid (show Aside W w8 X1 X2 q' q' sc from ⟨D1, D2, HT1.out.fr hf8, HT2.out.fr hf8, HT3.out, hl8, fun k hk => ⟨fun hd => by have := HT1.out.lt hd; have := hnw k hk; omega, fun hd => by have := HT2.out.lt hd; have := hnw k hk; omega⟩⟩)
          have HRM := hid (remove_n (nm := nm) HE.out hl8 hY HNS.out (by rw [hcl]; have := HQC.out; have := HQ.out; have := HLP.out; have := HLT.out; omega))
          have HCC := hid hcl
          clear hf8 hl8 hY hcl hfi hnw HT1 HT2 HT3 HCL
          go_wp2_with fail
          refine HRM.out.mono ?_
          rintro e w9 ⟨code, s9, rfl, hl9, hY9, hc9, hf9, hn9⟩
          have HA9 := hid (HAS.out.go hl9 hf9 hn9)
          have HCR := hid (crash_l hY9 hl9 (by rw [HCC.out] at hc9; have := HQC.out; have := HQ.out; have := HLP.out; have := HLT.out; omega) (fun k => k < W.heap.size) _ picks (HPK.out.frame hl9.f fun _ _ => id) (fun k hk hd => by have := hl9.d.lo k hd; have hk' : k < W.heap.size := hk; omega) HRP.out (by have := HLP.out; omega))
          clear hl9 hY9 hc9 hf9 hn9 HAS HRM
          generalize errV pa code = ev at *
          go_wp2_with fail
          refine HCR.out.mono ?_
          rintro e w10 ⟨rfl, G, bn, -, -, hl10, hf10⟩
          have HB10 := hid (HA9.out.end hf10)
          clear hl10 hf10 HA9 HCR
          have wi : IntKind.i64.wrap ((i : Int) + 1) = (i : Int) + 1 := IntWalk.i64_in _ (by have := HLP.out; have := HLT.out; omega)
          go_wp2_with fail
          exact ⟨⟨i + 1, q', by have := HLT.out; omega, by go_num, HB10, hid (by have := HQC.out; have := HQ.out; omega)⟩, by simp [intOf]; have := HLT.out; omega⟩
    · have hltI : ¬ (i : Int) < l.length := by omega
      obtain rfl : i = l.length := by omega
      obtain ⟨D1, D2, h1, h2, h3⟩ := HB.out
      have HCR := hid (crash_t h1 (by have := HQ.out; have := HLP.out; omega) (fun k => k < W.heap.size) _ picks (HPK.out.frame h1.f fun _ _ => id) (fun k hk hd => by have := h1.lo hd; have hk' : k < W.heap.size := hk; omega) HRP.out (by have := HLP.out; omega))
      have HT1 := hid h1; have HT2 := hid h2; have HT3 := hid h3
      clear h1 h2 h3 HB hlt hi
      go_wp2_with fail
      refine HCR.out.mono ?_
      rintro e w8 ⟨rfl, G, hG, hs⟩
      obtain ⟨D1', h1, h2, h3, -⟩ := St1.other HT1.out hs HT2.out HT3.out
      have HCR2 := hid (crash_t h2 (by have := HQ.out; have := HLP.out; omega) (fun k => k < W.heap.size) _ picks (HPK.out.frame h2.f fun _ _ => id) (fun k hk hd => by have := h2.lo hd; have hk' : k < W.heap.size := hk; omega) HRP.out (by have := HLP.out; omega))
      have HU1 := hid h1; have HU2 := hid h2; have HU3 := hid h3; have HG := hid hG
      clear h1 h2 h3 hs hG HT1 HT2 HT3 HCR
      go_wp2_with fail
      refine HCR2.out.mono ?_
      rintro e w9 ⟨rfl, G2, hG2, hs⟩
      obtain rfl : G = G2 := HU2.out.one HG.out hG2
      obtain ⟨D2', h2, h1, h3, -⟩ := St1.other HU2.out hs HU1.out fun k hk hd => HU3.out k hd hk
      have hqc : (q.crash picks G).calls = q.calls := rfl
      generalize q.crash picks G = qf at *
      have HQF := hid (show qf.calls ≤ 20 by have := HQ.out; have := HLP.out; omega)
      have HV1 := hid h1; have HV2 := hid h2
      clear h1 h2 h3 hs hG2 HU1 HU2 HU3 HCR2 hqc
      go_wp2_with fail
      refine (list_t HV1.out (by have := HQF.out; omega)).mono ?_
      rintro e wa ⟨hfa, aa, ca, rfl, hsa⟩
      have HW1 := hid (HV1.out.fr hfa); have HW2 := hid (HV2.out.fr hfa); have HSA := hid hsa
      clear hfa hsa HV1 HV2
      go_wp2_with fail
      refine (list_t HW2.out (by have := HQF.out; omega)).mono ?_
      rintro e wb ⟨hfb, ab, cb, rfl, hsb⟩
      have HX1 := hid (HW1.out.fr hfb); have HX2 := hid (HW2.out.fr hfb); have HSA2 := hid (HSA.out.keep0 hfb); have HSB := hid hsb
      clear hfb hsb HW1 HW2 HSA
      have hst := sameTexts_any _ _ _ _ _ _ wb HSA2.out HSB.out
      rw [decide_eq_true rfl] at hst
      have HST := hid hst
      clear hst
      go_wp2_with fail
      refine HST.out.mono ?_
      rintro e wc ⟨rfl, hdr⟩
      obtain ⟨nd, rfl⟩ := hdr
      have HY1 := hid (HX1.out.fr ((Fr.refl (fun _ => False) wb).drewN nd)); have HY2 := hid (HX2.out.fr ((Fr.refl (fun _ => False) wb).drewN nd))
      generalize wb.drewN nd = wc at *
      clear HST HX1 HX2 HSA2 HSB
      go_wp2_with fail
      refine (used_t HY1.out (by have := HQF.out; omega)).mono ?_
      rintro e wd ⟨rfl, hfd⟩
      have HZ1 := hid (HY1.out.fr hfd); have HZ2 := hid (HY2.out.fr hfd)
      clear hfd HY1 HY2
      go_wp2_with fail
      refine (used_t HZ2.out (by have := HQF.out; omega)).mono ?_
      rintro e we ⟨rfl, hfe⟩
      have HA1 := hid (HZ1.out.fr hfe); have HA2 := hid (HZ2.out.fr hfe)
      clear hfe HZ1 HZ2
      go_wp2_with fail
      refine (calls_t HA1.out).mono ?_
      rintro e wf ⟨rfl, rfl⟩
      go_wp2_with fail
      refine (calls_t HA2.out).mono ?_
      rintro e wf ⟨rfl, rfl⟩
      go_wp2_with fail
      go_ret
      exact ⟨by simp, HA1.out.f⟩
end Go.Proofs.YtlhbgobjhddhlaaDoor
