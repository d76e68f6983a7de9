/- Package line's Out: Take. -/
import Derived.Test.YtlfiljebfnejbaaDoorOutPut
import Derived.Test.YtlfiljebfnejbaaDoorItoa
namespace Go.Proofs.YtlfiljebfnejbaaDoor
open Go.RowKit

/-- How many lines were lost, told. -/
def lostB (n : Nat) : List UInt8 := [62, 62, 32, 108, 105, 110, 101, 115, 32, 108, 111, 115, 116, 58, 32] ++ (digS n).data.toList ++ [32, 60, 60]
def takeB (lost n : Nat) (L : List (List UInt8)) : List (List UInt8) := (if 0 < lost then [lostB lost] else []) ++ L.take n
theorem lost_str (n : Nat) : (⟨#[62, 62, 32, 108, 105, 110, 101, 115, 32, 108, 111, 115, 116, 58, 32]⟩ : ByteArray) ++ digS n ++ ⟨#[32, 60, 60]⟩ = ⟨(lostB n).toArray⟩ := ByteArray.ext (by simp [lostB])

theorem OwnO.addr {base e n c : Nat} {w : World} {a : Option Addr} {xs : List Value} (h : OwnO base e w (.slice a n c) n xs) : a = none ∨ ∃ b o, a = some ⟨b, o, none⟩ := by
  rcases h.2 with ⟨e, _⟩ | ⟨g, off, cap, cur, e, _⟩
  · simp only [Value.slice.injEq] at e; exact .inl e.1
  · simp only [Value.slice.injEq] at e; exact .inr ⟨g, off, e.1⟩
theorem OwnO.of_owns {base e n : Nat} {w : World} {v : Value} {xs : List Value} (h : w.ownsRow base e 1 v n xs) : OwnO base e w v n xs := by
  refine ⟨by simpa using h.1, ?_⟩
  rcases h.2 with hn | ⟨g, cap, cur, rfl, hb, hg, h1, h2, h3, ht⟩
  · exact .inl hn
  · exact .inr ⟨g, 0, cap, cur, rfl, hb, hg, h1, h2, by omega, by simpa using ht⟩
theorem own_base' {w : World} {b b' e size n : Nat} {v : Value} {xs : List Value} (h : w.ownsRow b e size v n xs) (hb : b' ≤ b) : w.ownsRow b' e size v n xs := own_rebase h (fun k hk => Nat.le_trans hb (h.lt k hk).1)
theorem take_no {base B : Nat} {w : World} {most used lost : Int} {lv : Value} {L : List (List UInt8)} (n : Int) (hn : n < 1) :
    Calls Tryd.prog 12 #[.pointer (some ⟨B, 0, none⟩), .int .i64 n] w fun e w' => e = .returned (.slice none 0 0) ∧ w = w' := by
  go_enter Tryd.func12, Tryd.ntmps12
  go_wp2
  go_ret
  exact ⟨rfl, rfl⟩

set_option maxRecDepth 100000 in
set_option maxHeartbeats 1600000 in
theorem take_any (base B most lost : Nat) (lv : Value) (L : List (List UInt8)) (n : Nat) (w : World) (hO : OutAt base w B most (usedB L) lost lv L) (hm2 : most ≤ 1048576) (hu : usedB L ≤ most) (hlo : lost < 100) (hn1 : 1 ≤ n) (hn2 : n ≤ 9223372036854775807) (hb : base ≤ w.heap.size) :
    Calls Tryd.prog 12 #[.pointer (some ⟨B, 0, none⟩), .int .i64 n] w fun e w' => ∃ ov lv', e = .returned ov ∧ w'.ownsRow w.heap.size 9 1 ov (takeB lost n L).length (sV (txt (takeB lost n L))) ∧ OutAt base w' B most (usedB (L.drop n)) 0 lv' (L.drop n) ∧ Fr (fun k => k = B) w w' ∧ (∀ k, lv'.ownBlock = some k → w.heap.size ≤ k) ∧ (∀ k, ov.ownBlock = some k → ¬ lv'.ownBlock = some k) ∧ (L = [] → lost = 0 → ov = .slice none 0 0) := by
  have HO := hid hO; have HM2 := hid hm2; have HU := hid hu; have HLO := hid hlo; have HB := hid hb; have HN2 := hid hn2
  have hnI : ¬ (n : Int) < 1 := by omega
  have hnI2 : (n : Int) ≤ 9223372036854775807 := by omega
  have hll := len_usedB L
  have hlI : (L.length : Int) ≤ 1048576 := by omega
  obtain ⟨c0, c1, c2, c3, hfz⟩ := hO.cells
  obtain ⟨la, lc, rfl, hlc, hlm, hln, hls⟩ := hO.own.shape
  obtain ⟨m, hm⟩ : ∃ m, min n L.length = m := ⟨_, rfl⟩
  have hmin : min (n : Int) (L.length : Int) = (m : Int) := by omega
  have hmL : m ≤ L.length := by omega
  have htm : L.take n = L.take m := by rw [← hm]; rcases Nat.le_total n L.length with h | h; rw [Nat.min_eq_left h]; rw [Nat.min_eq_right h, List.take_length, List.take_of_length_le h]
  have hdm : L.drop n = L.drop m := by rw [← hm]; rcases Nat.le_total n L.length with h | h; rw [Nat.min_eq_left h]; rw [Nat.min_eq_right h, List.drop_length, List.drop_of_length_le h]
  have HTM := hid htm; have HDM := hid hdm; have HM := hid hm; have HLS := hid hls; have HLN := hid hln; have HLC := hid hlc; have HLM := hid hlm
  clear hO hm2 hu hlo hb hn2 hll htm hdm hm hls hln hlc hlm
  go_enter Tryd.func12, Tryd.ntmps12
  go_upto_if 14 with fail
  go_cut [5] from 14 to 27 (fun ov wx => Hid (wx.ownsRow w.heap.size 9 1 ov (takeB lost 0 L).length (sV (txt (takeB lost 0 L)))) ∧ Hid (OutAt base wx B most (usedB L) 0 (.slice la L.length lc) L) ∧ Hid (Fr (fun k => k = B) w wx) ∧ Hid (lost = 0 → ov = .slice none 0 0))
  case first =>
    by_cases hl : 0 < lost
    · have hl' : (0 : Int) < lost := by omega
      have hds := digS_size lost
      have hq1 : ¬ 9223372036854775807 < 15 + (digS lost).size := by omega
      have hq2 : ¬ 9223372036854775807 < 15 + (digS lost).size + 3 := by omega
      have hst := lost_str lost
      have hfa := (Fr.refl (fun _ => False) w).alloc (.cells #[.string ⟨(lostB lost).toArray⟩] 9)
      have hcell := cell_new1 w (.string ⟨(lostB lost).toArray⟩) 9 (0, 0)
      have hT0 : takeB lost 0 L = [lostB lost] := by simp [takeB, hl]
      have HFA := hid hfa; have HCE := hid hcell; have HT0 := hid hT0
      clear hl hds hfa hcell hT0
      go_wp2_with fail
      refine (itoa_any lost w HLO.out).mono ?_
      rintro e w2 ⟨rfl, rfl⟩
      go_wp2_with (at_builtin; go_must (refine wpList_append1 rfl (.tmp 15) (.tmp 23) 29 rfl 9 (.string ByteArray.empty) 16 Tryd.underlying29 Tryd.info_str rfl _ rfl w.heap.size 0 [] (World.ownsRow_nil _ _ _ _) w.heap.size 1 (.string ⟨(lostB lost).toArray⟩) rfl HCE.out rfl (by decide) (by decide) HFA.out.size ?_))
      intro g cap w3 ho3 hf3 _
      have hF3 : Fr (fun _ => False) w w3 := HFA.out.trans hf3 (fun _ _ h => h) (fun x hx e => by cases e)
      have hO3 := HO.out.frame hF3 not_false (fun _ _ => not_false)
      obtain ⟨e0, e1, e2, e3, ez⟩ := hO3.cells
      have hO4 := hO3.setLost 0
      have hF4 := (hF3.mono (T := fun k => k = B) (fun _ _ h => h.elim)).setCell (p := ⟨B, 2, none⟩) (.inl rfl) (.int .i64 0)
      have ho4 : (w3.setCell ⟨B, 2, none⟩ (.int .i64 0)).ownsRow w.heap.size 9 1 (.slice (some ⟨g, 0, none⟩) 1 cap) (takeB lost 0 L).length (sV (txt (takeB lost 0 L))) := by
        rw [HT0.out]
        have h1 := ((Fr.refl (fun k => k = B) w3).setCell (p := ⟨B, 2, none⟩) (.inl rfl) (.int .i64 0)).own ho3 (fun k hk e => own_ne_cells ho3 hO3.heap (by decide) k hk e)
        simpa [sV, txt] using h1
      have HO4 := hid hO4; have HF4 := hid hF4; have HOW4 := hid ho4
      clear ho3 hf3 hF3 hO3 hO4 hF4 ho4
      go_wp2_with fail
      go_meet
      exact ⟨HOW4, HO4, HF4, hid (fun e => by omega)⟩
    · have hl' : ¬ (0 : Int) < lost := by omega
      obtain rfl : lost = 0 := by omega
      have hT0 : takeB 0 0 L = [] := by simp [takeB]
      have HT0 := hid hT0
      clear hT0 hl
      go_wp2_with fail
      go_meet
      exact ⟨hid (by rw [HT0.out]; exact World.ownsRow_nil _ _ _ _), HO, hid (Fr.refl _ _), hid (fun _ => rfl)⟩
  case rest =>
  obtain ⟨hov, hO2, hF2, hNL⟩ := hcut
  obtain ⟨c0', c1', c2', c3', hfz'⟩ := hO2.out.cells
  clear c0 c1 c2 c3 hfz
  have hmI : (m : Int) ≤ 1048576 := by omega
  have hmlc : m ≤ lc := by have := HLC.out; omega
  clear hmin
  go_upto_region 7 with fail
  go_cut [1] from 28 to 34 (fun c wx => c = .int .i64 m ∧ wc = wx)
  case first =>
    have hM := HM.out
    by_cases hnl : n ≤ L.length
    · have h1 : ¬ (L.length : Int) < n := by omega
      have h2 : (n : Int) ≤ L.length := by omega
      rw [Nat.min_eq_left hnl] at hM
      have HX := hid hM
      clear hM
      go_wp2_with fail
      go_meet
      exact ⟨by rw [HX.out], rfl⟩
    · have h1 : (L.length : Int) < n := by omega
      have h2 : ¬ (n : Int) ≤ L.length := by omega
      rw [Nat.min_eq_right (by omega)] at hM
      have HX := hid hM
      clear hM
      go_wp2_with fail
      go_meet
      exact ⟨by rw [HX.out], rfl⟩
  case rest =>
  obtain ⟨rfl, rfl⟩ := hcut
  go_wp2_with fail
  go_loopw [5, 42] (fun ov i wr => ∃ k : Nat, k ≤ m ∧ i = .int .i64 k ∧ Hid (wr.ownsRow w.heap.size 9 1 ov (takeB lost k L).length (sV (txt (takeB lost k L)))) ∧ Hid (OutAt base wr B most (usedB (L.drop k)) 0 (.slice la L.length lc) L) ∧ Hid (Fr (fun k => k = B) w wr) ∧ Hid (k = 0 → lost = 0 → ov = .slice none 0 0)) (fun _ i _ => m - (intOf i).toNat)
  case atStart => exact ⟨0, by omega, rfl, hov, by rw [List.drop_zero]; exact hO2, hF2, hid (fun _ h => hNL.out h)⟩
  case round =>
    clear hov hO2 hF2 hNL c0' c1' c2' c3' hfz'
    obtain ⟨k, hkm, rfl, hov, hO2, hF2, hNL⟩ := hrel
    obtain ⟨d0, d1, d2, d3, dz⟩ := hO2.out.cells
    have hkI : (k : Int) ≤ m := by omega
    by_cases hlt : k < m
    · have hkL : k < L.length := by omega
      obtain ⟨b1, o1, rfl, hc1⟩ := HLS.out k hkL
      have hx : (sV (txt L))[k]? = some (.string ⟨(L.getD k []).toArray⟩) := by
        simp [sV, txt, List.getD, hkL]
      rw [hx] at hc1
      have hbk : b1 ≠ B := (HO.out.neB b1 rfl)
      have hc2 := hF2.out.cell hc1 hbk
      have htk : L.take (k + 1) = L.take k ++ [L.getD k []] := take_snoc L k [] hkL
      have hud : usedB (L.drop k) = usedB (L.drop (k + 1)) + ((L.getD k []).length + 1) := by
        have : L.drop k = L.getD k [] :: L.drop (k + 1) := by rw [List.drop_eq_getElem_cons hkL]; simp [List.getD, hkL]
        rw [this, usedB_cons]; omega
      have hdm2 := usedB_drop L k
      generalize L.getD k [] = x at *
      have hub : (usedB (L.drop k) : Int) ≤ 1048576 := by have := HU.out; have := HM2.out; omega
      have hxb : (x.length : Int) ≤ 1048576 := by omega
      have hue : (usedB (L.drop k) : Int) - ((x.length : Int) + 1) = (usedB (L.drop (k + 1)) : Nat) := by omega
      have hxs : (ByteArray.mk x.toArray).size = x.length := by simp [ByteArray.size]
      have hTT : takeB lost (k + 1) L = takeB lost k L ++ [x] := by simp [takeB, htk]
      have hown := World.ownsRow.alloc hov.out (.cells #[.string ⟨x.toArray⟩] 9)
      have hce := cell_new1 wr (.string ⟨x.toArray⟩) 9 (0, 0)
      have hbs : w.heap.size ≤ (wr.alloc (.cells #[.string ⟨x.toArray⟩] 9)).heap.size := by have := hF2.out.size; simp; omega
      have hn1 : (takeB lost k L).length + 1 ≤ 1099511627776 := by
        have : (takeB lost k L).length ≤ 1 + k := by unfold takeB; split <;> simp <;> omega
        omega
      have HUE := hid hue; have HTT := hid hTT; have HOWA := hid hown; have HCE := hid hce; have HBS := hid hbs; have HN1 := hid hn1; have HUD := hid hud
      clear hue hTT hown hce hbs hn1 hud htk hx hdm2 hc1
      go_wp2_with (at_builtin; go_must (refine wpList_append1 rfl (.tmp 46) (.tmp 48) 29 rfl 9 (.string ByteArray.empty) 16 Tryd.underlying29 Tryd.info_str rfl _ rfl w.heap.size (takeB lost k L).length (sV (txt (takeB lost k L))) HOWA.out wr.heap.size 1 (.string ⟨x.toArray⟩) rfl HCE.out rfl HN1.out (by decide) HBS.out ?_))
      intro g cap w3 ho3 hf3 _
      have hge : ∀ q, some q = u5.ownBlock → w.heap.size ≤ q := fun q e => (HOWA.out.lt q e.symm).1
      have hlvlt := HO.out.own.lt
      have hBlt := heap_lt HO.out.heap
      have hfa : Fr (fun q => some q = u5.ownBlock) wr w3 := ((Fr.refl (fun _ => False) wr).alloc (.cells #[.string ⟨x.toArray⟩] 9)).trans hf3 (fun _ _ h => h.elim) (fun _ _ h => h)
      have hO3 := hO2.out.frame hfa (fun e => by have := hge B e; omega) (fun q hq e => by have := hge q e; have := (hlvlt q hq).2; omega)
      have hF3 : Fr (fun q => q = B) w w3 := hF2.out.trans hfa (fun _ _ h => h) (fun q hq e => by have := hge q e; omega)
      have hO4 := hO3.setUsed (usedB (L.drop (k + 1)) : Nat)
      have hF4 := hF3.setCell (p := ⟨B, 1, none⟩) (.inl rfl) (.int .i64 (usedB (L.drop (k + 1)) : Nat))
      have ho4 : (w3.setCell ⟨B, 1, none⟩ (.int .i64 (usedB (L.drop (k + 1)) : Nat))).ownsRow w.heap.size 9 1 (.slice (some ⟨g, 0, none⟩) ((takeB lost k L).length + 1) cap) (takeB lost (k + 1) L).length (sV (txt (takeB lost (k + 1) L))) := by
        rw [HTT.out]
        have h1 := ((Fr.refl (fun k => k = B) w3).setCell (p := ⟨B, 1, none⟩) (.inl rfl) (.int .i64 (usedB (L.drop (k + 1)) : Nat))).own ho3 (fun k hk e => own_ne_cells ho3 hO3.heap (by decide) k hk e)
        simpa [sV, txt] using h1
      obtain ⟨e0, e1, e2, e3, ez⟩ := hO3.cells
      have hue := HUE.out
      have HO4 := hid hO4; have HF4 := hid hF4; have HOW4 := hid ho4
      clear ho3 hf3 hge hlvlt hBlt hfa hO3 hF3 hO4 hF4 ho4 d0 d1 d2 d3 dz hc2 hov hO2 hF2
      go_wp2_with fail
      go_roundw
      case rel => exact ⟨k + 1, by omega, by go_num, HOW4, HO4, HF4, hid (fun e => by omega)⟩
      case measure => simp [intOf]; omega
    · obtain rfl : k = m := by omega
      have hDL : (L.drop k).length = L.length - k := by simp
      have hcells : ∀ j, j < L.length - k → ∃ b o, la = some ⟨b, o, none⟩ ∧ wr.cell? ⟨b, o + (k + j), none⟩ = (sV (txt (L.drop k)))[j]? := fun j hj => by
        obtain ⟨b1, o1, rfl, hc1⟩ := HLS.out (k + j) (by omega)
        obtain ⟨y, hy⟩ : ∃ y, (sV (txt L))[k + j]? = some y := ⟨_, List.getElem?_eq_getElem (by simp; omega)⟩
        refine ⟨b1, o1, rfl, ?_⟩
        rw [hy] at hc1
        rw [hF2.out.cell hc1 (HO.out.neB b1 rfl), ← hy]
        simp [sV, txt, List.getElem?_drop]
      have hone : ∀ u ∈ sV (txt (L.drop k)), u.oneCell' = true := by
        intro u hu
        simp only [sV, List.mem_map] at hu
        obtain ⟨_, _, rfl⟩ := hu
        rfl
      have hll2 : (sV (txt (L.drop k))).length = L.length - k := by simp
      have hcap : L.length - k ≤ 1099511627776 := by omega
      have HCS := hid hcells; have HON := hid hone; have HLL2 := hid hll2; have HCAP := hid hcap; have HDL := hid hDL
      have hadr := HO.out.own.addr
      generalize L.drop k = LD at *
      clear hcells hone hll2 hcap hDL d0 d1 d2
      rcases hadr with rfl | ⟨b1, o1, rfl⟩
      · have h0 := HLN.out rfl
        have hk0 : k = 0 := by omega
        have hl0 : L.length = 0 := by omega
        have hc0 : lc = 0 := by omega
        subst hc0
        rw [hl0] at d3
        rw [hl0, hk0] at HLL2
        have HL0 := hid hl0; have HK0 := hid hk0
        clear h0 hl0
        rw [hk0]
        clear hk0
        go_wp2_with (at_builtin; go_must (refine wpList_appendN rfl (.const (.slice none 0 0)) (.tmp 67) 29 rfl 9 (.string ByteArray.empty) 16 Tryd.underlying29 Tryd.info_str rfl (.slice none 0 0) rfl w.heap.size 0 [] (World.ownsRow_nil _ _ _ _) _ 0 _ (sV (txt LD)) rfl HLL2.out (fun _ => ⟨rfl, rfl⟩) (fun j hj => by omega) HON.out (by omega) (by decide) hF2.out.size ?_))
        intro v0 w4 ho4 hf4 hnb
        have hO4 := hO2.out.frame hf4 (fun e => by cases e) (fun _ _ e => by cases e)
        have hF4 : Fr (fun q => q = B) w w4 := hF2.out.trans hf4 (fun _ _ h => h) (fun _ _ e => by cases e)
        have hv4 := hf4.own hov.out (fun _ _ e => by cases e)
        have ho5 : w4.ownsRow w.heap.size 9 1 v0 LD.length (sV (txt LD)) := by
          rw [HDL.out, HL0.out, HK0.out]
          simpa using ho4
        obtain ⟨a5, c5, rfl, -⟩ := own_len ho5
        have hnn : ∀ q, (Value.slice a5 LD.length c5).ownBlock = some q → wr.heap.size ≤ q := fun q hq => by
          rcases hnb q hq with h | h
          · cases h
          · exact h
        have hoO : OwnO base 9 w4 (.slice a5 LD.length c5) LD.length (sV (txt LD)) := OwnO.of_owns (own_base' ho5 HB.out)
        have hO5 := OutAt.setL hO4.heap hO4.le hoO
        have hF5 := hF4.setCell (p := ⟨B, 3, none⟩) (.inl rfl) (.slice a5 LD.length c5)
        have hv5 := ((Fr.refl (fun k => k = B) w4).setCell (p := ⟨B, 3, none⟩) (.inl rfl) (.slice a5 LD.length c5)).own hv4 (fun k hk e => own_ne_cells hv4 hO4.heap (by decide) k hk e)
        obtain ⟨e0, e1, e2, e3, ez⟩ := hO4.cells
        have HO5 := hid hO5; have HF5 := hid hF5; have HV5 := hid hv5; have HNN := hid hnn
        have hvlt := (hov.out).lt
        have HVLT := hid hvlt
        clear ho4 hf4 hnb hO4 hF4 hv4 ho5 hnn hoO hO5 hF5 hv5 d3 dz hvlt
        go_wp2_with fail
        go_ret
        refine ⟨_, .slice a5 LD.length c5, rfl, ?_, ?_, HF5.out, fun q hq => ?_, fun q hq e => ?_, fun hLn hl0 => ?_⟩
        · have : takeB lost n L = takeB lost k L := by unfold takeB; rw [HTM.out]
          rw [this]
          exact HV5.out
        · rw [HDM.out]
          exact HO5.out
        · have h1 := HNN.out q hq
          have h2 := hF2.out.size
          omega
        · have h1 := HNN.out q e
          have h2 := (HVLT.out q hq).2
          omega
        · refine hNL.out ?_ hl0
          have hq0 : L.length = 0 := by rw [hLn]; rfl
          omega
      · by_cases hlk : lc = k
        · have HLK0 : Hid (L.length - k = 0) := hid (by have := HLC.out; omega)
          go_wp2_with (at_builtin; go_must (refine wpList_appendN rfl (.const (.slice none 0 0)) (.tmp 67) 29 rfl 9 (.string ByteArray.empty) 16 Tryd.underlying29 Tryd.info_str rfl (.slice none 0 0) rfl w.heap.size 0 [] (World.ownsRow_nil _ _ _ _) (some ⟨b1, o1, none⟩) (L.length - k) _ (sV (txt LD)) rfl HLL2.out (fun h => by cases h) (fun j hj => by have := HLK0.out; omega) HON.out (by have := HCAP.out; omega) (by decide) hF2.out.size ?_))
          intro v0 w4 ho4 hf4 hnb
          have hO4 := hO2.out.frame hf4 (fun e => by cases e) (fun _ _ e => by cases e)
          have hF4 : Fr (fun q => q = B) w w4 := hF2.out.trans hf4 (fun _ _ h => h) (fun _ _ e => by cases e)
          have hv4 := hf4.own hov.out (fun _ _ e => by cases e)
          have ho5 : w4.ownsRow w.heap.size 9 1 v0 LD.length (sV (txt LD)) := by
            rw [HDL.out]
            simpa using ho4
          obtain ⟨a5, c5, rfl, -⟩ := own_len ho5
          have hnn : ∀ q, (Value.slice a5 LD.length c5).ownBlock = some q → wr.heap.size ≤ q := fun q hq => by
            rcases hnb q hq with h | h
            · cases h
            · exact h
          have hoO : OwnO base 9 w4 (.slice a5 LD.length c5) LD.length (sV (txt LD)) := OwnO.of_owns (own_base' ho5 HB.out)
          have hO5 := OutAt.setL hO4.heap hO4.le hoO
          have hF5 := hF4.setCell (p := ⟨B, 3, none⟩) (.inl rfl) (.slice a5 LD.length c5)
          have hv5 := ((Fr.refl (fun k => k = B) w4).setCell (p := ⟨B, 3, none⟩) (.inl rfl) (.slice a5 LD.length c5)).own hv4 (fun k hk e => own_ne_cells hv4 hO4.heap (by decide) k hk e)
          obtain ⟨e0, e1, e2, e3, ez⟩ := hO4.cells
          have HO5 := hid hO5; have HF5 := hid hF5; have HV5 := hid hv5; have HNN := hid hnn
          have hvlt := (hov.out).lt
          have HVLT := hid hvlt
          clear ho4 hf4 hnb hO4 hF4 hv4 ho5 hnn hoO hO5 hF5 hv5 d3 dz hvlt
          go_wp2_with fail
          go_ret
          refine ⟨_, .slice a5 LD.length c5, rfl, ?_, ?_, HF5.out, fun q hq => ?_, fun q hq e => ?_, fun hLn hl0 => ?_⟩
          · have : takeB lost n L = takeB lost k L := by unfold takeB; rw [HTM.out]
            rw [this]
            exact HV5.out
          · rw [HDM.out]
            exact HO5.out
          · have h1 := HNN.out q hq
            have h2 := hF2.out.size
            omega
          · have h1 := HNN.out q e
            have h2 := (HVLT.out q hq).2
            omega
          · refine hNL.out ?_ hl0
            have hq0 : L.length = 0 := by rw [hLn]; rfl
            omega
        · have HSRC : Hid (∀ j, j < L.length - k → ∃ b o, (some ⟨b1, o1 + k, none⟩ : Option Addr) = some ⟨b, o, none⟩ ∧ wr.cell? ⟨b, o + j, none⟩ = (sV (txt LD))[j]?) := hid (fun j hj => by
            obtain ⟨b, o, e, hc⟩ := HCS.out j hj
            simp only [Option.some.injEq, Addr.mk.injEq] at e
            obtain ⟨rfl, rfl, _⟩ := e
            exact ⟨b1, o1 + k, rfl, by rw [Nat.add_assoc]; exact hc⟩)
          go_wp2_with (at_builtin; go_must (refine wpList_appendN rfl (.const (.slice none 0 0)) (.tmp 67) 29 rfl 9 (.string ByteArray.empty) 16 Tryd.underlying29 Tryd.info_str rfl (.slice none 0 0) rfl w.heap.size 0 [] (World.ownsRow_nil _ _ _ _) (some ⟨b1, o1 + k, none⟩) (L.length - k) (lc - k) (sV (txt LD)) rfl HLL2.out (fun h => by cases h) (HSRC.out) HON.out (by have := HCAP.out; omega) (by decide) hF2.out.size ?_))
          intro v0 w4 ho4 hf4 hnb
          have hO4 := hO2.out.frame hf4 (fun e => by cases e) (fun _ _ e => by cases e)
          have hF4 : Fr (fun q => q = B) w w4 := hF2.out.trans hf4 (fun _ _ h => h) (fun _ _ e => by cases e)
          have hv4 := hf4.own hov.out (fun _ _ e => by cases e)
          have ho5 : w4.ownsRow w.heap.size 9 1 v0 LD.length (sV (txt LD)) := by
            rw [HDL.out]
            simpa using ho4
          obtain ⟨a5, c5, rfl, -⟩ := own_len ho5
          have hnn : ∀ q, (Value.slice a5 LD.length c5).ownBlock = some q → wr.heap.size ≤ q := fun q hq => by
            rcases hnb q hq with h | h
            · cases h
            · exact h
          have hoO : OwnO base 9 w4 (.slice a5 LD.length c5) LD.length (sV (txt LD)) := OwnO.of_owns (own_base' ho5 HB.out)
          have hO5 := OutAt.setL hO4.heap hO4.le hoO
          have hF5 := hF4.setCell (p := ⟨B, 3, none⟩) (.inl rfl) (.slice a5 LD.length c5)
          have hv5 := ((Fr.refl (fun k => k = B) w4).setCell (p := ⟨B, 3, none⟩) (.inl rfl) (.slice a5 LD.length c5)).own hv4 (fun k hk e => own_ne_cells hv4 hO4.heap (by decide) k hk e)
          obtain ⟨e0, e1, e2, e3, ez⟩ := hO4.cells
          have HO5 := hid hO5; have HF5 := hid hF5; have HV5 := hid hv5; have HNN := hid hnn
          have hvlt := (hov.out).lt
          have HVLT := hid hvlt
          clear ho4 hf4 hnb hO4 hF4 hv4 ho5 hnn hoO hO5 hF5 hv5 d3 dz hvlt
          go_wp2_with fail
          go_ret
          refine ⟨_, .slice a5 LD.length c5, rfl, ?_, ?_, HF5.out, fun q hq => ?_, fun q hq e => ?_, fun hLn hl0 => ?_⟩
          · have : takeB lost n L = takeB lost k L := by unfold takeB; rw [HTM.out]
            rw [this]
            exact HV5.out
          · rw [HDM.out]
            exact HO5.out
          · have h1 := HNN.out q hq
            have h2 := hF2.out.size
            omega
          · have h1 := HNN.out q e
            have h2 := (HVLT.out q hq).2
            omega
          · refine hNL.out ?_ hl0
            have hq0 : L.length = 0 := by rw [hLn]; rfl
            omega
end Go.Proofs.YtlfiljebfnejbaaDoor
