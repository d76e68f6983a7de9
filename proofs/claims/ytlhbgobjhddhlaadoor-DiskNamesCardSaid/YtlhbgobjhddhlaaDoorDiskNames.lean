/- The statement DiskNames, walked. -/
import Derived.Test.YtlhbgobjhddhlaaDoorDiskMoves
namespace Go.Proofs.YtlhbgobjhddhlaaDoor
open Go.RowKit
variable {w0 w w' : World} {pa : Nat → Addr} {nm : ByteArray} {X : Nat}

theorem create_a {p : PS} (h : PW w0 w X p) (hS : S6 w0.heap.size w0 pa) (hc : p.calm) (ho : okN nm = true) (hb : p.calls ≤ 1000000 ∧ p.files ≤ 1000000) :
    Calls Tryd.prog 14 #[.pointer (some ⟨X, 0, none⟩), .string nm] w fun e w' => Fr (Tk w) w w' ∧ ((e = .returned (errV pa 108) ∧ PW w0 w' X p) ∨ (e = .returned .nilIface ∧ ∃ F, PW w0 w' X (p.create nm F))) := by
  cases hl : lk p.names nm with
  | none =>
    refine (create_p h hS hc ho hl hb).mono ?_
    rintro e w2 ⟨rfl, F, -, h2, hf⟩
    exact ⟨hf, .inr ⟨rfl, F, h2⟩⟩
  | some k =>
    obtain ⟨s, h, rfl, rfl⟩ := h
    have hcs : calm s := hc
    refine (create_l rfl hS h nm (by have := okN_size ho; omega) hb).mono ?_
    rintro e w2 ⟨rfl, h1, -⟩
    have hE : createE s nm = 108 := by
      unfold createE
      rw [if_neg (by simp [hcs.e]), if_neg (by simp [ho]), show lk s.names nm = some k from hl, if_pos (by simp)]
    rw [hE] at h1 ⊢
    obtain ⟨h3, h4⟩ := h1 (by decide)
    rw [hcs.b] at h3
    exact ⟨h.tk h4, .inl ⟨rfl, ⟨_, h3, rfl, rfl⟩⟩⟩
theorem remove_a {p : PS} (h : PW w0 w X p) (hS : S6 w0.heap.size w0 pa) (hc : p.calm) (hn : nm.size ≤ 1048576) (hb : p.calls ≤ 1000000) :
    Calls Tryd.prog 18 #[.pointer (some ⟨X, 0, none⟩), .string nm] w fun e w' => Fr (Tk w) w w' ∧ ((e = .returned (errV pa 107) ∧ PW w0 w' X p) ∨ (e = .returned .nilIface ∧ ∃ c, PW w0 w' X (p.change c))) := by
  cases hl : lk p.names nm with
  | some k =>
    refine (remove_p h hS hc hl hb).mono ?_
    rintro e w2 ⟨rfl, h2, hf⟩
    exact ⟨hf, .inr ⟨rfl, _, h2⟩⟩
  | none =>
    obtain ⟨s, h, rfl, rfl⟩ := h
    have hcs : calm s := hc
    refine (remove_l rfl hS h nm hn hb).mono ?_
    rintro e w2 ⟨rfl, h1, -⟩
    rw [hcs.find0 (show lk s.names nm = none from hl)] at h1 ⊢
    obtain ⟨h3, h4⟩ := h1 (by decide)
    rw [hcs.b] at h3
    exact ⟨h.tk h4, .inl ⟨rfl, ⟨_, h3, rfl, rfl⟩⟩⟩
theorem rename_a {p : PS} (h : PW w0 w X p) (hS : S6 w0.heap.size w0 pa) (hc : p.calm) (hn : nm.size ≤ 1048576) (nt : ByteArray) (ho : okN nt = true) (hb : p.calls ≤ 1000000) :
    Calls Tryd.prog 31 #[.pointer (some ⟨X, 0, none⟩), .string nm, .string nt] w fun e w' => Fr (Tk w) w w' ∧ ((e = .returned (errV pa 107) ∧ PW w0 w' X p) ∨ (e = .returned .nilIface ∧ ∃ c, PW w0 w' X (p.change c))) := by
  cases hl : lk p.names nm with
  | some k =>
    refine (rename_p h hS hc hl nt ho hb).mono ?_
    rintro e w2 ⟨rfl, h2, hf⟩
    exact ⟨hf, .inr ⟨rfl, _, h2⟩⟩
  | none =>
    obtain ⟨s, h, rfl, rfl⟩ := h
    have hcs : calm s := hc
    refine (rename_l rfl hS h nm nt hn (by have := okN_size ho; omega) hb).mono ?_
    rintro e w2 ⟨rfl, h1, -⟩
    have hE : renE s nm nt = 107 := by unfold renE; rw [hcs.find0 (show lk s.names nm = none from hl)]; rfl
    rw [hE] at h1 ⊢
    obtain ⟨h3, h4⟩ := h1 (by decide)
    rw [hcs.b] at h3
    exact ⟨h.tk h4, .inl ⟨rfl, ⟨_, h3, rfl, rfl⟩⟩⟩
/-- What stands at round i. -/
structure NameI (p : PS) (i : Nat) : Prop where
  calm : p.calm
  kept : p.kept = []
  names : p.names = p.kp p.ch.length
  calls : p.calls ≤ i
  files : p.files ≤ i
  chl : p.ch.length ≤ i
theorem kp_app {p p' : PS} {c : Chg} (h1 : p'.kept = p.kept) (h2 : p'.ch = p.ch ++ [c]) {j : Nat} (hj : j ≤ p.ch.length) : p'.kp j = p.kp j := by
  unfold PS.kp
  rw [h1, h2, List.take_append_of_le_length hj]
theorem kp_last {p p' : PS} {c : Chg} (h1 : p'.kept = p.kept) (h2 : p'.ch = p.ch ++ [c]) : p'.kp (p.ch.length + 1) = applyM (p.kp p.ch.length) c := by
  unfold PS.kp
  rw [h1, h2, List.take_of_length_le (by simp), List.take_length, List.foldl_append]
  rfl
theorem NameI.next {p p' : PS} {i : Nat} {c : Chg} (h : NameI p i) (h0 : p'.calm) (h1 : p'.kept = p.kept) (h2 : p'.ch = p.ch ++ [c]) (h3 : p'.names = applyM p.names c) (h4 : p'.calls = p.calls + 1) (h5 : p'.files ≤ p.files + 1) : NameI p' (i + 1) := by
  have hl : p'.ch.length = p.ch.length + 1 := by rw [h2]; simp
  exact ⟨h0, h1.trans h.kept, by rw [hl, kp_last h1 h2, ← h.names]; exact h3, by have := h.calls; omega, by have := h.files; omega, by have := h.chl; omega⟩
/-- A row of one's own beside the disk is written. -/
theorem PW.ownrow {p : PS} {b e z n : Nat} {v : Value} {us : List Value} (h : PW w0 w X p) (ho : w.ownsRow b e z v n us) (hf : Fr (fun k => some k = v.ownBlock) w w') (h1 : e ≠ 63 := by decide) (h2 : e ≠ 70 := by decide) (h3 : e ≠ 68 := by decide) (h4 : e ≠ 5 := by decide) (hb : w0.heap.size ≤ b) : PW w0 w' X p := by
  obtain ⟨s, h, hX, hp⟩ := h
  refine ⟨s, ⟨h.d.frame hf (fun k hk he => ?_) fun k hk he => ?_, h.f.trans (U := fun _ => False) hf (fun _ _ h => h) fun k hk he => ?_⟩, hX, hp⟩
  · rcases ho.2 with ⟨e, -⟩ | ⟨g, cap, cur, e, -, hg, -⟩
    · rw [e] at he; cases he
    · rw [e] at he
      simp only [Value.ownBlock, Option.some.injEq] at he
      subst he
      rcases h.d.other hk hg with e | e | e
      · exact h1 e
      · exact h2 e
      · exact h3 e
  · obtain ⟨cs, fz, hc⟩ := hk
    exact own_ne_cells ho hc h4 k he.symm rfl
  · have := (ho.lt k he.symm).1
    omega
/-- The states told so far. -/
structure StAt (w0 wr : World) (p : PS) (v : Value) (us : List Value) : Prop where
  own : wr.ownsRow w0.heap.size 52 1 v us.length us
  len : us.length = p.ch.length + 1
  each : ∀ j u, us[j]? = some u → Ss (TB wr) wr u (namesL (p.kp j)) ∧ u.oneCell' = true
theorem Tryd.info_strs : (Tryd.prog.info? 52).map (fun i => (i.zero, i.size, i.bytes)) = some (some (.slice none 0 0), 1, 24) := by kernel_rfl
theorem StAt.keep {w0 wr wq : World} {p : PS} {v : Value} {us : List Value} (h : StAt w0 wr p v us) (hf : Fr (Tk wr) wr wq) : StAt w0 wq p v us := by
  refine ⟨hf.own h.own fun k hk => ?_, h.len, fun j u hj => ⟨(h.each j u hj).1.keep hf, (h.each j u hj).2⟩⟩
  rcases h.own.2 with ⟨e, -⟩ | ⟨g, cap, cur, e, -, hg, -⟩
  · rw [e] at hk; cases hk
  · rw [e] at hk
    simp only [Value.ownBlock, Option.some.injEq] at hk
    subst hk
    exact Tk.no hg (by decide) (by decide) (by decide)
theorem StAt.keep0 {w0 wr wq : World} {p : PS} {v : Value} {us : List Value} (h : StAt w0 wr p v us) (hf : Fr (fun _ => False) wr wq) : StAt w0 wq p v us := h.keep (fr_tk hf)
theorem StAt.same {w0 wr : World} {p p' : PS} {v : Value} {us : List Value} (h : StAt w0 wr p v us) (h1 : p'.kept = p.kept) (h2 : p'.ch = p.ch) : StAt w0 wr p' v us := by
  refine ⟨h.own, by rw [h2]; exact h.len, fun j u hj => ?_⟩
  have : p'.kp j = p.kp j := by unfold PS.kp; rw [h1, h2]
  rw [this]
  exact h.each j u hj
/-- One more state. -/
theorem StAt.more {w0 wr wq : World} {p p' : PS} {c : Chg} {v v' u : Value} {us : List Value} (h : StAt w0 wr p v us) (h1 : p'.kept = p.kept) (h2 : p'.ch = p.ch ++ [c]) (hf : Fr (fun k => some k = v.ownBlock) wr wq) (ho : wq.ownsRow w0.heap.size 52 1 v' (us.length + 1) (us ++ [u])) (hu : Ss (TB wr) wr u (namesL (p'.kp p'.ch.length))) (hone : u.oneCell' = true) : StAt w0 wq p' v' (us ++ [u]) := by
  have hl : p'.ch.length = us.length := by rw [h2, h.len]; simp
  have hT : ∀ k, TB wr k → ¬ some k = v.ownBlock := fun k hk e => by
    obtain ⟨cs, fz, hc⟩ := hk
    exact own_ne_cells h.own hc (by decide) k e.symm rfl
  have hk : ∀ u L, Ss (TB wr) wr u L → Ss (TB wq) wq u L := fun u L hs => (hs.frame hf hT).mono fun k _ hk => hk.frame hf (hT k hk)
  refine ⟨by simpa using ho, by rw [List.length_append]; simp only [List.length_cons, List.length_nil]; omega, fun j x hj => ?_⟩
  by_cases hjl : j < us.length
  · rw [List.getElem?_append_left hjl] at hj
    rw [kp_app h1 h2 (by rw [h.len] at hjl; omega)]
    exact ⟨hk _ _ (h.each j x hj).1, (h.each j x hj).2⟩
  · rw [List.getElem?_append_right (by omega)] at hj
    have hj0 : j - us.length = 0 := by
      have := (List.getElem?_eq_some_iff.1 hj).1
      simpa using this
    rw [hj0] at hj
    simp at hj
    subst hj
    rw [show j = p'.ch.length by omega]
    exact ⟨hk _ _ hu, hone⟩
theorem conv_one (w : World) (k : Nat) (hk : k < 256) : (convert 30 9 (.slice (some ⟨w.heap.size, 0, none⟩) 1 1)).run Tryd.prog (w.alloc (.cells #[.int .u8 (k : Int)] 5)) = .ok (.string (nm1 k)) (w.alloc (.cells #[.int .u8 (k : Int)] 5)) := by
  have hkc : (UInt8.ofNat k).toNat = k := by rw [UInt8.toNat_ofNat']; omega
  have hB : Bs (fun q => q = w.heap.size) (w.alloc (.cells #[.int .u8 (k : Int)] 5)) (.slice (some ⟨w.heap.size, 0, none⟩) 1 1) [UInt8.ofNat k] := by
    have := Bs.row (w := w.alloc (.cells #[.int .u8 (k : Int)] 5)) (g := w.heap.size) (l := [UInt8.ofNat k]) (fz := (0, 0)) (by rw [heap_alloc_new w]; simp [bV, hkc]) (by simp [maxLen])
    simpa using this
  exact conv_bytes hB 30 5 9 Tryd.underlying30 Tryd.underlying5 Tryd.underlying9
set_option maxRecDepth 100000 in
set_option maxHeartbeats 12800000 in
theorem diskNames_any (pa : Nat → Addr) (vl : Value) (l : List Int) (q : Int) (b1 : -9223372036854775808 ≤ q) (c1 : q ≤ 9223372036854775807) (W : World) (hl : Is (fun _ => True) W vl l) (hr : ∀ k, -9223372036854775808 ≤ l.getD k 0 ∧ l.getD k 0 ≤ 9223372036854775807) (hE : S6 W.heap.size W pa) :
    Calls Tryd.prog 8 #[vl, .int .i64 q] W fun e w' => e = .returned (.bool true) ∧ Fr (fun _ => False) W w' := by
  have HFI := hid (dfirst_any (w := W) hE)
  obtain ⟨a, c, rfl, h1, h2, hc⟩ := id hl
  have HC := hid hc; have HRR := hid hr; have HE := hid hE
  clear hl hr hE hc
  go_enter Tryd.func8, Tryd.ntmps8
  go_wp2_with fail
  refine HFI.out.mono ?_
  rintro e w1 ⟨rfl, hf1⟩
  have HF1 := hid hf1
  clear hf1
  by_cases l1 : 20 < l.length
  · have l1I : (20 : Int) < l.length := by omega
    go_wp2_with fail
    go_ret
    exact ⟨rfl, HF1.out⟩
  have l1I : ¬ (20 : Int) < l.length := by omega
  have HN := hid (new_p HE.out HF1.out 100)
  go_wp2_with fail
  refine HN.out.mono ?_
  rintro e w3 ⟨-, h3⟩
  obtain ⟨X, rfl, h3, -⟩ := h3 (by decide +kernel)
  have H3 := hid h3
  clear h3 l1I
  go_wp2_with fail
  refine (list_p H3.out (Nat.zero_le _)).mono ?_
  rintro e w4 ⟨hf4, a4, c4, rfl, hs4⟩
  have H4 := hid (H3.out.fr hf4)
  have hn0 : namesL (PS.new 100).names = [] := namesL_of (List.Perm.refl _) List.Pairwise.nil
  rw [hn0] at hs4 ⊢
  have hfa := (Fr.refl (fun _ => False) w4).alloc (.cells #[.slice a4 0 c4] 52)
  have H5 := hid (H4.out.fr hfa)
  have hst0 := World.ownsRow_nil (w4.alloc (.cells #[.slice a4 0 c4] 52)) W.heap.size 52 1
  have HST0 := hid hst0
  have HC1 := hid (cell_new1 w4 (.slice a4 0 c4) 52 (0, 0))
  have hs5 := hs4.keep0 hfa
  have HS5 := hid hs5
  have hbs : W.heap.size ≤ (w4.alloc (.cells #[.slice a4 0 c4] 52)).heap.size := H5.out.f.size
  have HBS := hid hbs
  have HN0 := hid hn0
  clear hf4 hs4 hfa hst0 hs5 hbs hn0
  simp only [List.length_nil]
  go_wp2_with (at_builtin; go_must (refine wpList_append1 rfl (.tmp 36) (.tmp 39) 51 rfl 52 (.slice none 0 0) 24 Tryd.underlying51 Tryd.info_strs rfl _ rfl W.heap.size 0 [] HST0.out w4.heap.size 1 (.slice a4 0 c4) rfl HC1.out rfl (by decide) (by decide) HBS.out ?_))
  intro g6 c6 w6 ho6 hf6 _
  have hf6' : Fr (fun _ => False) (w4.alloc (.cells #[.slice a4 0 c4] 52)) w6 := hf6.mono fun k _ e => by simp [Value.ownBlock] at e
  have HST := hid (show StAt W w6 (PS.new 100) (.slice (some ⟨g6, 0, none⟩) 1 c6) [.slice a4 0 c4] from ⟨ho6, rfl, fun j u hj => by
    cases j with
    | zero =>
      simp at hj
      subst hj
      refine ⟨?_, rfl⟩
      have := HS5.out.keep0 hf6'
      rw [show namesL ((PS.new 100).kp 0) = [] from HN0.out]
      exact this
    | succ j => simp at hj⟩)
  have H6 := hid (H5.out.fr hf6')
  clear ho6 hf6 hf6'
  go_wp2_with fail
  go_loopw [8, 9] (fun sv iv wr => ∃ (i : Nat) (p : PS) (us : List Value) (ag : Option Addr) (cg : Nat), i ≤ l.length ∧ sv = .slice ag us.length cg ∧ iv = .int .i64 i ∧ Hid (NameI p i) ∧ Hid (PW W wr X p) ∧ Hid (StAt W wr p (.slice ag us.length cg) us)) (fun _ iv _ => l.length - (intOf iv).toNat)
  case atStart => exact ⟨0, PS.new 100, [.slice a4 0 c4], some ⟨g6, 0, none⟩, c6, Nat.zero_le _, rfl, rfl, hid ⟨⟨rfl, rfl⟩, rfl, rfl, Nat.le_refl _, Nat.le_refl _, Nat.le_refl _⟩, H6, HST⟩
  case round =>
    obtain ⟨i, p, us, ag, cg, hi, rfl, rfl, HI, HP, HS⟩ := hrel
    by_cases hlt : i < l.length
    · have hltI : (i : Int) < l.length := by omega
      obtain ⟨x, o, y, rfl, -, hcell, rfl⟩ := HC.out i hlt
      obtain ⟨z, hz⟩ : ∃ z, l.getD i 0 = z := ⟨_, rfl⟩
      have hzr := HRR.out i
      rw [hz] at hcell hzr
      have HZ := hid hcell
      have num : ∀ (n m : Int) (hm : 0 < m), ∃ k : Nat, n % m = (k : Int) ∧ (k : Int) < m := fun n m hm => ⟨(n % m).toNat, by have := Int.emod_nonneg n (show m ≠ 0 by omega); omega, by have := Int.emod_lt_of_pos n hm; have := Int.emod_nonneg n (show m ≠ 0 by omega); omega⟩
      obtain ⟨x1, hx1, hb1⟩ := num z 5 (by decide)
      obtain ⟨x2, hx2, hb2⟩ := num (z.tdiv 5) 5 (by decide)
      obtain ⟨x3, hx3, hb3⟩ := num (z.tdiv 25) 3 (by decide)
      have HN1 := hid (fun w => number_any z 5 w (by omega) (by omega) hzr.1 hzr.2)
      have ht5 : -9223372036854775808 ≤ z.tdiv 5 ∧ z.tdiv 5 ≤ 9223372036854775807 := by
        have h1 := Int.mul_tdiv_add_tmod z 5
        have h2 := Int.tmod_lt_of_pos z (show (0 : Int) < 5 by decide)
        have h3 := Int.tmod_lt_of_pos (-z) (show (0 : Int) < 5 by decide)
        rw [Int.neg_tmod] at h3
        omega
      have ht25 : -9223372036854775808 ≤ z.tdiv 25 ∧ z.tdiv 25 ≤ 9223372036854775807 := by
        have h1 := Int.mul_tdiv_add_tmod z 25
        have h2 := Int.tmod_lt_of_pos z (show (0 : Int) < 25 by decide)
        have h3 := Int.tmod_lt_of_pos (-z) (show (0 : Int) < 25 by decide)
        rw [Int.neg_tmod] at h3
        omega
      have HN2 := hid (fun w => number_any (z.tdiv 5) 5 w (by omega) (by omega) ht5.1 ht5.2)
      have HN3 := hid (fun w => number_any (z.tdiv 25) 3 w (by omega) (by omega) ht25.1 ht25.2)
      rw [hx1] at HN1
      rw [hx2] at HN2
      rw [hx3] at HN3
      have wt5 : IntKind.i64.wrap (z.tdiv 5) = z.tdiv 5 := IntWalk.i64_in _ (by omega)
      have wt25 : IntKind.i64.wrap (z.tdiv 25) = z.tdiv 25 := IntWalk.i64_in _ (by omega)
      clear hz hx1 hx2 hx3 num
      obtain ⟨k1, hk1⟩ : ∃ k, 97 + x1 = k := ⟨_, rfl⟩
      obtain ⟨k2, hk2⟩ : ∃ k, 97 + x2 = k := ⟨_, rfl⟩
      have wk1 : IntKind.i64.wrap ((97 : Int) + x1) = (k1 : Int) := by rw [show (97 : Int) + x1 = (k1 : Int) by omega]; exact IntWalk.i64_in _ (by omega)
      have wk2 : IntKind.i64.wrap ((97 : Int) + x2) = (k2 : Int) := by rw [show (97 : Int) + x2 = (k2 : Int) by omega]; exact IntWalk.i64_in _ (by omega)
      have wu1 : IntKind.u8.wrap (k1 : Int) = (k1 : Int) := IntWalk.u8_in _ (by omega)
      have wu2 : IntKind.u8.wrap (k2 : Int) = (k2 : Int) := IntWalk.u8_in _ (by omega)
      have HK1 := hid (show 97 ≤ k1 ∧ k1 ≤ 122 by omega); have HK2 := hid (show 97 ≤ k2 ∧ k2 ≤ 122 by omega)
      have hcell' := HP.out.f.cell HZ.out not_false
      have hcv1 := conv_one wr k1 (by omega)
      have hfa := (Fr.refl (fun _ => False) wr).alloc (.cells #[.int .u8 (k1 : Int)] 5)
      have hcellA := hfa.cell hcell' not_false
      have HFA := hid hfa
      clear hk1 hk2 hb1 hb2 hzr ht5 ht25 hfa
      go_wp2_with fail
      refine (HN1.out _).mono ?_
      rintro e w7 ⟨rfl, rfl⟩
      go_wp2_with fail
      refine (HN2.out _).mono ?_
      rintro e w7 ⟨rfl, rfl⟩
      generalize wr.alloc (.cells #[.int .u8 (k1 : Int)] 5) = wA at *
      have hcv2 := conv_one wA k2 (by have := HK2.out; omega)
      have hfb := (Fr.refl (fun _ => False) wA).alloc (.cells #[.int .u8 (k2 : Int)] 5)
      have hcellB := hfb.cell hcellA not_false
      have HFB := hid hfb
      clear hcv1 hcell' hfb
      go_wp2_with fail
      refine (HN3.out _).mono ?_
      rintro e w7 ⟨rfl, rfl⟩
      generalize wA.alloc (.cells #[.int .u8 (k2 : Int)] 5) = wB at *
      have HPB := hid (HP.out.fr (HFA.out.trans' HFB.out))
      have HSB := hid (HS.out.keep0 (HFA.out.trans' HFB.out))
      clear hcv2 hcellA hcellB wk1 wk2 wu1 wu2 wt5 wt25
      have hx3 : x3 = 0 ∨ x3 = 1 ∨ x3 = 2 := by omega
      clear hb3
      have wi : IntKind.i64.wrap ((i : Int) + 1) = (i : Int) + 1 := IntWalk.i64_in _ (by omega)
      rcases hx3 with rfl | rfl | rfl
      · have HCALL := hid (create_a HPB.out HE.out HI.out.calm (nm1_ok HK1.out.1 HK1.out.2) ⟨by have := HI.out.calls; omega, by have := HI.out.files; omega⟩)
        go_wp2_with fail
        refine HCALL.out.mono ?_
        rintro e w9 ⟨hf9, h9⟩
        clear HCALL
        rcases h9 with ⟨rfl, h9⟩ | ⟨rfl, F, h9⟩
        · have z1 : errV pa 108 = .iface 148 (.pointer (some (pa 7))) := rfl
          rw [z1]
          have H9 := hid h9; have HS9 := hid (HSB.out.keep hf9)
          clear h9 hf9 z1
          go_wp2_with fail
          go_roundw
          case rel => exact ⟨i + 1, p, us, ag, cg, by omega, rfl, by go_num, hid ⟨HI.out.calm, HI.out.kept, HI.out.names, by have := HI.out.calls; omega, by have := HI.out.files; omega, by have := HI.out.chl; omega⟩, H9, HS9⟩
          case measure => simp [intOf]; omega
        · have hnx : NameI (p.create (nm1 k1) F) (i + 1) := HI.out.next (c := ⟨nm1 k1, ⟨#[]⟩, some F⟩) HI.out.calm rfl rfl (by simp [PS.create, applyM]) rfl (Nat.le_refl _)
          have hch : (p.create (nm1 k1) F).kept = p.kept ∧ ∃ c, (p.create (nm1 k1) F).ch = p.ch ++ [c] := ⟨rfl, _, rfl⟩
          have HS9 := hid (HSB.out.keep hf9)
          have H9 := hid h9; have HNX := hid hnx; have HCH := hid hch
          clear h9 hf9 hnx hch
          generalize p.create (nm1 k1) F = p9 at *
          go_wp2_with fail
          refine (list_p H9.out (by have := HNX.out.calls; omega)).mono ?_
          rintro e w10 ⟨hf10, a10, c10, rfl, hs10⟩
          have hfa := (Fr.refl (fun _ => False) w10).alloc (.cells #[.slice a10 (namesL p9.names).length c10] 52)
          have H11 := hid (H9.out.fr (hf10.trans' hfa))
          have HS11 := hid (HS9.out.keep0 (hf10.trans' hfa))
          have HU11 := hid (hs10.keep0 hfa)
          have HOW := hid HS11.out.own
          have HC1 := hid (cell_new1 w10 (.slice a10 (namesL p9.names).length c10) 52 (0, 0))
          have HBS := hid (show W.heap.size ≤ (w10.alloc (.cells #[.slice a10 (namesL p9.names).length c10] 52)).heap.size from H11.out.f.size)
          have HUL := hid (show us.length + 1 ≤ 1099511627776 by have := HS11.out.len; have := HI.out.chl; omega)
          clear hf10 hs10 hfa
          go_wp2_with (at_builtin; go_must (refine wpList_append1 rfl (.tmp 88) (.tmp 91) 51 rfl 52 (.slice none 0 0) 24 Tryd.underlying51 Tryd.info_strs rfl _ rfl W.heap.size us.length us HOW.out w10.heap.size 1 (.slice a10 (namesL p9.names).length c10) rfl HC1.out rfl HUL.out (by decide) HBS.out ?_))
          intro g12 c12 w12 ho12 hf12 _
          have hm12 : StAt W w12 p9 (.slice (some ⟨g12, 0, none⟩) (us.length + 1) c12) (us ++ [.slice a10 (namesL p9.names).length c10]) := by
            obtain ⟨hk, cc, hc⟩ := HCH.out
            exact HS11.out.more hk hc hf12 ho12 (by rw [← HNX.out.names]; exact HU11.out) rfl
          have hF12 : Fr (fun _ => False) (w10.alloc (.cells #[.slice a10 (namesL p9.names).length c10] 52)) w12 ∨ True := .inr trivial
          have H12 := hid (show PW W w12 X p9 from H11.out.ownrow HS11.out.own hf12 (hb := Nat.le_refl _))
          have HM12 := hid hm12
          clear ho12 hf12 hm12 hF12
          go_wp2_with fail
          go_roundw
          case rel => exact ⟨i + 1, p9, us ++ [.slice a10 (namesL p9.names).length c10], some ⟨g12, 0, none⟩, c12, by omega, by simp, by go_num, HNX, H12, hid (by have := HM12.out; simpa using this)⟩
          case measure => simp [intOf]; omega
      · have HCALL := hid (remove_a HPB.out HE.out HI.out.calm (nm := nm1 k1) (by have := okN_size (nm1_ok HK1.out.1 HK1.out.2); omega) (by have := HI.out.calls; omega))
        go_wp2_with fail
        refine HCALL.out.mono ?_
        rintro e w9 ⟨hf9, h9⟩
        clear HCALL
        rcases h9 with ⟨rfl, h9⟩ | ⟨rfl, cx, h9⟩
        · have z1 : errV pa 107 = .iface 148 (.pointer (some (pa 6))) := rfl
          rw [z1]
          have H9 := hid h9; have HS9 := hid (HSB.out.keep hf9)
          clear h9 hf9 z1
          go_wp2_with fail
          go_roundw
          case rel => exact ⟨i + 1, p, us, ag, cg, by omega, rfl, by go_num, hid ⟨HI.out.calm, HI.out.kept, HI.out.names, by have := HI.out.calls; omega, by have := HI.out.files; omega, by have := HI.out.chl; omega⟩, H9, HS9⟩
          case measure => simp [intOf]; omega
        · have hnx : NameI (p.change cx) (i + 1) := HI.out.next HI.out.calm rfl rfl rfl rfl (Nat.le_succ _)
          have hch : (p.change cx).kept = p.kept ∧ ∃ c, (p.change cx).ch = p.ch ++ [c] := ⟨rfl, _, rfl⟩
          have HS9 := hid (HSB.out.keep hf9)
          have H9 := hid h9; have HNX := hid hnx; have HCH := hid hch
          clear h9 hf9 hnx hch
          generalize p.change cx = p9 at *
          go_wp2_with fail
          refine (list_p H9.out (by have := HNX.out.calls; omega)).mono ?_
          rintro e w10 ⟨hf10, a10, c10, rfl, hs10⟩
          have hfa := (Fr.refl (fun _ => False) w10).alloc (.cells #[.slice a10 (namesL p9.names).length c10] 52)
          have H11 := hid (H9.out.fr (hf10.trans' hfa))
          have HS11 := hid (HS9.out.keep0 (hf10.trans' hfa))
          have HU11 := hid (hs10.keep0 hfa)
          have HOW := hid HS11.out.own
          have HC1 := hid (cell_new1 w10 (.slice a10 (namesL p9.names).length c10) 52 (0, 0))
          have HBS := hid (show W.heap.size ≤ (w10.alloc (.cells #[.slice a10 (namesL p9.names).length c10] 52)).heap.size from H11.out.f.size)
          have HUL := hid (show us.length + 1 ≤ 1099511627776 by have := HS11.out.len; have := HI.out.chl; omega)
          clear hf10 hs10 hfa
          go_wp2_with (at_builtin; go_must (refine wpList_append1 rfl (.tmp 88) (.tmp 91) 51 rfl 52 (.slice none 0 0) 24 Tryd.underlying51 Tryd.info_strs rfl _ rfl W.heap.size us.length us HOW.out w10.heap.size 1 (.slice a10 (namesL p9.names).length c10) rfl HC1.out rfl HUL.out (by decide) HBS.out ?_))
          intro g12 c12 w12 ho12 hf12 _
          have hm12 : StAt W w12 p9 (.slice (some ⟨g12, 0, none⟩) (us.length + 1) c12) (us ++ [.slice a10 (namesL p9.names).length c10]) := by
            obtain ⟨hk, cc, hc⟩ := HCH.out
            exact HS11.out.more hk hc hf12 ho12 (by rw [← HNX.out.names]; exact HU11.out) rfl
          have hF12 : Fr (fun _ => False) (w10.alloc (.cells #[.slice a10 (namesL p9.names).length c10] 52)) w12 ∨ True := .inr trivial
          have H12 := hid (show PW W w12 X p9 from H11.out.ownrow HS11.out.own hf12 (hb := Nat.le_refl _))
          have HM12 := hid hm12
          clear ho12 hf12 hm12 hF12
          go_wp2_with fail
          go_roundw
          case rel => exact ⟨i + 1, p9, us ++ [.slice a10 (namesL p9.names).length c10], some ⟨g12, 0, none⟩, c12, by omega, by simp, by go_num, HNX, H12, hid (by have := HM12.out; simpa using this)⟩
          case measure => simp [intOf]; omega
      · have HCALL := hid (rename_a HPB.out HE.out HI.out.calm (nm := nm1 k1) (by have := okN_size (nm1_ok HK1.out.1 HK1.out.2); omega) (nm1 k2) (nm1_ok HK2.out.1 HK2.out.2) (by have := HI.out.calls; omega))
        go_wp2_with fail
        refine HCALL.out.mono ?_
        rintro e w9 ⟨hf9, h9⟩
        clear HCALL
        rcases h9 with ⟨rfl, h9⟩ | ⟨rfl, cx, h9⟩
        · have z1 : errV pa 107 = .iface 148 (.pointer (some (pa 6))) := rfl
          rw [z1]
          have H9 := hid h9; have HS9 := hid (HSB.out.keep hf9)
          clear h9 hf9 z1
          go_wp2_with fail
          go_roundw
          case rel => exact ⟨i + 1, p, us, ag, cg, by omega, rfl, by go_num, hid ⟨HI.out.calm, HI.out.kept, HI.out.names, by have := HI.out.calls; omega, by have := HI.out.files; omega, by have := HI.out.chl; omega⟩, H9, HS9⟩
          case measure => simp [intOf]; omega
        · have hnx : NameI (p.change cx) (i + 1) := HI.out.next HI.out.calm rfl rfl rfl rfl (Nat.le_succ _)
          have hch : (p.change cx).kept = p.kept ∧ ∃ c, (p.change cx).ch = p.ch ++ [c] := ⟨rfl, _, rfl⟩
          have HS9 := hid (HSB.out.keep hf9)
          have H9 := hid h9; have HNX := hid hnx; have HCH := hid hch
          clear h9 hf9 hnx hch
          generalize p.change cx = p9 at *
          go_wp2_with fail
          refine (list_p H9.out (by have := HNX.out.calls; omega)).mono ?_
          rintro e w10 ⟨hf10, a10, c10, rfl, hs10⟩
          have hfa := (Fr.refl (fun _ => False) w10).alloc (.cells #[.slice a10 (namesL p9.names).length c10] 52)
          have H11 := hid (H9.out.fr (hf10.trans' hfa))
          have HS11 := hid (HS9.out.keep0 (hf10.trans' hfa))
          have HU11 := hid (hs10.keep0 hfa)
          have HOW := hid HS11.out.own
          have HC1 := hid (cell_new1 w10 (.slice a10 (namesL p9.names).length c10) 52 (0, 0))
          have HBS := hid (show W.heap.size ≤ (w10.alloc (.cells #[.slice a10 (namesL p9.names).length c10] 52)).heap.size from H11.out.f.size)
          have HUL := hid (show us.length + 1 ≤ 1099511627776 by have := HS11.out.len; have := HI.out.chl; omega)
          clear hf10 hs10 hfa
          go_wp2_with (at_builtin; go_must (refine wpList_append1 rfl (.tmp 88) (.tmp 91) 51 rfl 52 (.slice none 0 0) 24 Tryd.underlying51 Tryd.info_strs rfl _ rfl W.heap.size us.length us HOW.out w10.heap.size 1 (.slice a10 (namesL p9.names).length c10) rfl HC1.out rfl HUL.out (by decide) HBS.out ?_))
          intro g12 c12 w12 ho12 hf12 _
          have hm12 : StAt W w12 p9 (.slice (some ⟨g12, 0, none⟩) (us.length + 1) c12) (us ++ [.slice a10 (namesL p9.names).length c10]) := by
            obtain ⟨hk, cc, hc⟩ := HCH.out
            exact HS11.out.more hk hc hf12 ho12 (by rw [← HNX.out.names]; exact HU11.out) rfl
          have hF12 : Fr (fun _ => False) (w10.alloc (.cells #[.slice a10 (namesL p9.names).length c10] 52)) w12 ∨ True := .inr trivial
          have H12 := hid (show PW W w12 X p9 from H11.out.ownrow HS11.out.own hf12 (hb := Nat.le_refl _))
          have HM12 := hid hm12
          clear ho12 hf12 hm12 hF12
          go_wp2_with fail
          go_roundw
          case rel => exact ⟨i + 1, p9, us ++ [.slice a10 (namesL p9.names).length c10], some ⟨g12, 0, none⟩, c12, by omega, by simp, by go_num, HNX, H12, hid (by have := HM12.out; simpa using this)⟩
          case measure => simp [intOf]; omega
    · have hltI : ¬ (i : Int) < l.length := by omega
      have hul := HS.out.len
      have hchl := HI.out.chl
      obtain ⟨n, hn⟩ : ∃ n, us.length = n := ⟨_, rfl⟩
      obtain ⟨m, hm, hmb⟩ : ∃ m : Nat, q % (n : Int) = (m : Int) ∧ m < n := ⟨(q % (n : Int)).toNat, by have := Int.emod_nonneg q (show (n : Int) ≠ 0 by omega); omega, by have := Int.emod_lt_of_pos q (show (0 : Int) < n by omega); have := Int.emod_nonneg q (show (n : Int) ≠ 0 by omega); omega⟩
      have HNQ := hid (fun w => number_any q (n : Int) w (by omega) (by omega) b1 c1)
      rw [hm] at HNQ
      have hcp : p.cp [q] = m := by
        unfold PS.cp pick
        rw [if_neg (by simp)]
        show (q % ((p.ch.length : Int) + 1)).toNat = m
        rw [show (p.ch.length : Int) + 1 = (n : Int) by omega, hm]
        omega
      obtain ⟨u, hu⟩ : ∃ u, us[m]? = some u := ⟨_, List.getElem?_eq_getElem (by omega)⟩
      have hsu := (HS.out.each m u hu).1
      obtain ⟨au, cu, hue, -⟩ := id hsu
      have HU := hid hsu; have HUU := hid hu; have HCP := hid hcp
      have HB1 := hid b1; have HC1' := hid c1
      rw [hn]
      clear hul hchl hm hcp hsu hu b1 c1
      go_wp2_with fail
      refine (HNQ.out _).mono ?_
      rintro e w7 ⟨rfl, rfl⟩
      have hfa := (Fr.refl (fun _ => False) wr).alloc (.cells #[.int .i64 q] 3)
      have hrow := heap_alloc_new wr (.cells #[.int .i64 q] 3)
      have HCR := hid (crash_q (HP.out.fr hfa) (by have := HI.out.calls; omega) _ _ [q] (Is.row (fz := (0, 0)) (t := 3) hrow (by simp [maxLen])) (fun k hk => .inl (by rw [hk]; exact Tk.no hrow (by decide) (by decide) (by decide))) (fun k => by
        rcases k with _ | k
        · exact ⟨HB1.out, HC1'.out⟩
        · exact ⟨by show _ ≤ (0 : Int); decide, by show (0 : Int) ≤ _; decide⟩) (by simp))
      have HS8 := hid (HS.out.keep0 hfa)
      clear hfa hrow
      go_wp2_with fail
      refine HCR.out.mono ?_
      rintro e w8 ⟨rfl, L, -, h8, hf8⟩
      have hq : ∃ p8 : PS, PW W w8 X p8 ∧ p8.names = p.kp m ∧ p8.kept = p.kp m ∧ p8.ch = [] ∧ p8.calls ≤ i ∧ p8.calm := ⟨_, h8, by show p.kp (p.cp [q]) = _; rw [HCP.out], by show p.kp (p.cp [q]) = _; rw [HCP.out], rfl, HI.out.calls, ⟨rfl, rfl⟩⟩
      have HS9 := hid (HS8.out.keep hf8)
      clear h8 hf8 HCR HS8
      obtain ⟨p8, h8, k1, k2, k3, k4, k5⟩ := hq
      have H8 := hid h8; have K1 := hid k1; have K2 := hid k2; have K3 := hid k3; have K4 := hid k4; have K5 := hid k5
      clear h8 k1 k2 k3 k4 k5
      go_wp2_with fail
      refine (list_p H8.out (by have := K4.out; omega)).mono ?_
      rintro e w10 ⟨hf10, a10, c10, rfl, hs10⟩
      rw [K1.out] at hs10 ⊢
      have H10 := hid (H8.out.fr hf10); have HS10 := hid (HS9.out.keep0 hf10)
      have hfa := (Fr.refl (fun _ => False) w10).alloc (.cells #[.int .i64 7, .int .i64 7, .int .i64 7] 3)
      have hrow := heap_alloc_new w10 (.cells #[.int .i64 7, .int .i64 7, .int .i64 7] 3)
      have HCR := hid (crash_q (H10.out.fr hfa) (by have := K4.out; omega) _ _ [7, 7, 7] (Is.row (fz := (0, 0)) (t := 3) hrow (by simp [maxLen])) (fun k hk => .inl (by rw [hk]; exact Tk.no hrow (by decide) (by decide) (by decide))) (fun k => by
        rcases k with _ | _ | _ | k
        · exact ⟨by show _ ≤ (7 : Int); decide, by show (7 : Int) ≤ _; decide⟩
        · exact ⟨by show _ ≤ (7 : Int); decide, by show (7 : Int) ≤ _; decide⟩
        · exact ⟨by show _ ≤ (7 : Int); decide, by show (7 : Int) ≤ _; decide⟩
        · exact ⟨by show _ ≤ (0 : Int); decide, by show (0 : Int) ≤ _; decide⟩) (by simp))
      have HS11 := hid (HS10.out.keep0 hfa); have HT11 := hid (hs10.keep0 hfa)
      clear hf10 hs10 hfa hrow
      go_wp2_with fail
      refine HCR.out.mono ?_
      rintro e w12 ⟨rfl, L2, -, h12, hf12⟩
      have hq : ∃ p9 : PS, PW W w12 X p9 ∧ p9.names = p.kp m ∧ p9.calls ≤ i := ⟨_, h12, by show p8.kp (p8.cp [7, 7, 7]) = _; rw [cp_ch _ _ K3.out, kp0]; exact K2.out, K4.out⟩
      have HS12 := hid (HS11.out.keep hf12); have HT12 := hid (HT11.out.keep hf12)
      clear h12 hf12 HCR
      obtain ⟨p9, h12, k1, k4⟩ := hq
      have H12 := hid h12; have L1 := hid k1; have L4 := hid k4
      clear h12 k1 k4
      have hcellu : ∃ g, ag = some ⟨g, 0, none⟩ ∧ w12.cell? ⟨g, m, none⟩ = some u := by
        rcases own_heap HS12.out.own with ⟨e, h0, -⟩ | ⟨g, cap, e, -, -, hc⟩
        · have := HS12.out.len; omega
        · simp only [Value.slice.injEq] at e
          exact ⟨g, e.1, by rw [hc m (by omega), HUU.out]⟩
      obtain ⟨gs, rfl, hcu⟩ := hcellu
      have hUU := HUU.out
      have hs12u := (HS12.out.each m u hUU).1
      have hmI : (m : Int) < n := by omega
      have HST := hid (sameTexts_any _ _ _ _ _ _ w12 HT12.out hs12u)
      rw [decide_eq_true rfl] at HST
      subst hue
      clear hUU hs12u
      go_wp2_with fail
      refine HST.out.mono ?_
      rintro e w13 ⟨rfl, hq13⟩
      have hd13 := fr_drewN hq13
      have H13 := hid (H12.out.fr hd13); have HT13 := hid (HT12.out.keep0 hd13)
      clear hq13 hd13 hcu
      go_wp2_with fail
      refine (list_p H13.out (by have := L4.out; omega)).mono ?_
      rintro e w14 ⟨hf14, a14, c14, rfl, hs14⟩
      rw [L1.out] at hs14 ⊢
      have HST2 := hid (sameTexts_any _ _ _ _ _ _ w14 hs14 (HT13.out.keep0 hf14))
      rw [decide_eq_true rfl] at HST2
      have H14 := hid (H13.out.fr hf14)
      clear hf14 hs14
      go_wp2_with fail
      refine HST2.out.mono ?_
      rintro e w15 ⟨rfl, hq15⟩
      have HFin := hid (H14.out.f.trans' (fr_drewN hq15))
      clear hq15
      go_wp2_with fail
      go_ret
      exact ⟨rfl, HFin.out⟩
end Go.Proofs.YtlhbgobjhddhlaaDoor
