/- The document's queue of lines: Take. -/
import Derived.Test.YtlfiljebfnejbaaDoorRefPut
import Derived.Test.YtlfiljebfnejbaaDoorLineLost
namespace Go.Proofs.YtlfiljebfnejbaaDoor
open Go.RowKit

set_option maxRecDepth 100000 in
set_option maxHeartbeats 3200000 in
theorem rtake_any (base X most lost lo l2 m : Nat) (lv : Value) (L : List (List UInt8)) (n : Int) (w : World) (hO : RAt base w X most lost lv L) (hm2 : most ≤ 1048576) (hu : usedB L ≤ most) (hlo : lost < 100)
    (hm : (m : Int) = max (min n L.length) 0) (hcs : (0 < lo ∧ lo = lost ∧ 1 ≤ m ∧ l2 = 0) ∨ (lo = 0 ∧ l2 = lost ∧ ¬ (0 < lost ∧ 1 ≤ m))) (hb : base ≤ w.heap.size) :
    Calls Tryd.prog 17 #[.pointer (some ⟨X, 0, none⟩), .int .i64 n] w fun e w' => ∃ ov lv', e = .returned ov ∧ w'.ownsRow w.heap.size 9 1 ov (takeB lo m L).length (sV (txt (takeB lo m L))) ∧ RAt base w' X most l2 lv' (L.drop m) ∧ Fr (fun k => k = X) w w' ∧ (∀ k, lv'.ownBlock = some k → w.heap.size ≤ k) := by
  have HO := hid hO; have HM2 := hid hm2; have HU := hid hu; have HLO := hid hlo; have HB := hid hb; have HM := hid hm; have HCS := hid hcs
  have hll := len_usedB L
  have hlI : (L.length : Int) ≤ 1048576 := by omega
  have hmL : m ≤ L.length := by omega
  obtain ⟨c0, c1, c2, hfz⟩ := hO.cells
  obtain ⟨la, lc, rfl, hlc, hlm, hln, hls⟩ := hO.own.shape
  have HSS0 := hid (OwnO.ss hO.own)
  have HLN := hid hln; have HLC := hid hlc; have HLM := hid hlm
  have HADR := hid hO.own.addr
  clear hO hm2 hu hlo hb hll hm hcs hln hlc hlm hls
  go_enter Tryd.func17, Tryd.ntmps17
  go_upto_region 1 with fail
  go_cut [1] from 6 to 13 (fun c wx => c = .int .i64 m ∧ w = wx)
  case first =>
    have hcase : (n < 0 ∧ Hid ((m : Int) = 0)) ∨ (0 ≤ n ∧ n ≤ L.length ∧ Hid ((m : Int) = n)) ∨ ((L.length : Int) < n ∧ Hid ((m : Int) = L.length)) := by
      have := HM.out
      by_cases h1 : n < 0
      · exact .inl ⟨h1, hid (by omega)⟩
      · by_cases h2 : n ≤ L.length
        · exact .inr (.inl ⟨by omega, h2, hid (by omega)⟩)
        · exact .inr (.inr ⟨by omega, hid (by omega)⟩)
    rcases hcase with ⟨h1, HX⟩ | ⟨h1, h2, HX⟩ | ⟨h1, HX⟩
    · have h3 : ¬ (L.length : Int) < n := by omega
      have h4 : n ≤ (L.length : Int) := by omega
      have h5 : n ≤ 0 := by omega
      have h6 : ¬ (0 : Int) < n := by omega
      go_wp2_with fail
      go_meet
      exact ⟨int_eq (by have := HX.out; omega), rfl⟩
    · have h3 : ¬ (L.length : Int) < n := by omega
      have h6 : ¬ n < 0 := by omega
      go_wp2_with fail
      go_meet
      exact ⟨int_eq (by have := HX.out; omega), rfl⟩
    · have h3 : ¬ n ≤ (L.length : Int) := by omega
      go_wp2_with fail
      go_meet
      exact ⟨int_eq (by have := HX.out; omega), rfl⟩
  case rest =>
  obtain ⟨rfl, rfl⟩ := hcut
  obtain ⟨bb, hbb⟩ : ∃ bb : Bool, bb = decide (0 < lost ∧ 1 ≤ m) := ⟨_, rfl⟩
  have HBB := hid hbb
  clear hbb
  go_upto_region 3 with fail
  go_cut [22] from 14 to 22 (fun b wx => b = .bool bb ∧ w = wx)
  case first =>
    by_cases hl : (0 : Int) < lost
    · by_cases hm1 : (1 : Int) ≤ m
      · have HX : Hid (bb = true) := hid (by rw [HBB.out]; simp; omega)
        go_wp2_with fail
        go_meet
        exact ⟨by rw [HX.out], rfl⟩
      · have HX : Hid (bb = false) := hid (by rw [HBB.out]; simp; omega)
        go_wp2_with fail
        go_meet
        exact ⟨by rw [HX.out], rfl⟩
    · have HX : Hid (bb = false) := hid (by rw [HBB.out]; simp; omega)
      go_wp2_with fail
      go_meet
      exact ⟨by rw [HX.out], rfl⟩
  case rest =>
  obtain ⟨rfl, rfl⟩ := hcut
  go_upto_if 22 with fail
  go_cut [5] from 23 to 35 (fun ov wx => Hid (wx.ownsRow w.heap.size 9 1 ov (takeB lo 0 L).length (sV (txt (takeB lo 0 L)))) ∧ Hid (RAt base wx X most l2 (.slice la L.length lc) L) ∧ Hid (Fr (fun k => k = X) w wx))
  case first =>
    rcases HCS.out with ⟨hl, rfl, hm1, rfl⟩ | ⟨rfl, rfl, hno⟩
    · obtain rfl : bb = true := by rw [HBB.out]; simp; omega
      have hds := digS_size lo
      have hq1 : ¬ 9223372036854775807 < 15 + (digS lo).size := by omega
      have hq2 : ¬ 9223372036854775807 < 15 + (digS lo).size + 3 := by omega
      have hst := lost_str lo
      have hfa := (Fr.refl (fun _ => False) w).alloc (.cells #[.string ⟨(lostB lo).toArray⟩] 9)
      have hcell := cell_new1 w (.string ⟨(lostB lo).toArray⟩) 9 (0, 0)
      have hT0 : takeB lo 0 L = [lostB lo] := by simp [takeB, hl]
      have HFA := hid hfa; have HCE := hid hcell; have HT0 := hid hT0
      clear hl hds hfa hcell hT0
      go_wp2_with fail
      refine (rdigits_any lo w HLO.out).mono ?_
      rintro e w2 ⟨rfl, rfl⟩
      go_wp2_with (at_builtin; go_must (refine wpList_append1 rfl (.tmp 23) (.tmp 31) 29 rfl 9 (.string ByteArray.empty) 16 Tryd.underlying29 Tryd.info_str rfl _ rfl w.heap.size 0 [] (World.ownsRow_nil _ _ _ _) w.heap.size 1 (.string ⟨(lostB lo).toArray⟩) rfl HCE.out rfl (by decide) (by decide) HFA.out.size ?_))
      intro g cap w3 ho3 hf3 _
      have hF3 : Fr (fun _ => False) w w3 := HFA.out.trans hf3 (fun _ _ h => h) (fun x hx e => by cases e)
      have hO3 := HO.out.frame hF3 not_false (fun _ _ => not_false)
      obtain ⟨e0, e1, e2, ez⟩ := hO3.cells
      have hO4 := hO3.setLost 0
      have hF4 := (hF3.mono (T := fun k => k = X) (fun _ _ h => h.elim)).setCell (p := ⟨X, 1, none⟩) (.inl rfl) (.int .i64 0)
      have ho4 : (w3.setCell ⟨X, 1, none⟩ (.int .i64 0)).ownsRow w.heap.size 9 1 (.slice (some ⟨g, 0, none⟩) 1 cap) (takeB lo 0 L).length (sV (txt (takeB lo 0 L))) := by
        rw [HT0.out]
        have h1 := ((Fr.refl (fun k => k = X) w3).setCell (p := ⟨X, 1, none⟩) (.inl rfl) (.int .i64 0)).own ho3 (fun k hk e => own_ne_cells ho3 hO3.heap (by decide) k hk e)
        simpa [sV, txt] using h1
      have HO4 := hid hO4; have HF4 := hid hF4; have HOW4 := hid ho4
      clear ho3 hf3 hF3 hO3 hO4 hF4 ho4
      go_wp2_with fail
      go_meet
      exact ⟨HOW4, HO4, HF4⟩
    · have hT0 : takeB 0 0 L = [] := by simp [takeB]
      have HT0 := hid hT0
      clear hT0
      obtain rfl : bb = false := by rw [HBB.out]; simpa using hno
      clear hno
      go_wp2_with fail
      go_meet
      exact ⟨hid (by rw [HT0.out]; exact World.ownsRow_nil _ _ _ _), HO, hid (Fr.refl _ _)⟩
  case rest =>
  obtain ⟨hov, hO2, hF2⟩ := hcut
  clear c0 c1 c2 hfz
  obtain ⟨c0, c1, c2, hfz⟩ := hO2.out.cells
  have hmlc : m ≤ lc := by have := HLC.out; omega
  have hss2 := OwnO.ss hO2.out.own
  have hll : (sV (txt (L.take m))).length = m := by simp [txt]; omega
  have hone : ∀ u ∈ sV (txt (L.take m)), u.oneCell' = true := by
    intro u hu
    simp only [sV, List.mem_map] at hu
    obtain ⟨_, _, rfl⟩ := hu
    rfl
  have hcells : ∀ j, j < m → ∃ b o, la = some ⟨b, o, none⟩ ∧ wc.cell? ⟨b, o + j, none⟩ = (sV (txt (L.take m)))[j]? := fun j hj => by
    obtain ⟨a', c', e, h1, h2, h3⟩ := hss2
    have htl : (txt L).length = L.length := by simp [txt]
    rw [htl] at e h3
    simp only [Value.slice.injEq] at e
    obtain ⟨rfl, _, rfl⟩ := e
    obtain ⟨b, o, rfl, -, hc⟩ := h3 j (by omega)
    refine ⟨b, o, rfl, ?_⟩
    rw [hc]
    have hjL : j < L.length := by omega
    simp [sV, txt, List.getD, hjL, hj]
  have hdl : (txt (L.drop m)).length = L.length - m := by simp [txt]
  have hsub : ∀ (w' : World) (a' : Option Addr), a' = (if lc = m then la else la.map fun x => x.add m) → Fr (fun k => some k = u5.ownBlock) wc w' → Ss (fun k => (Value.slice la L.length lc).ownBlock = some k) w' (.slice a' (L.length - m) (lc - m)) (txt (L.drop m)) := by
    intro w' a' ha' hfw
    have htl : (txt L).length = L.length := by simp [txt]
    have h1 : Ss (fun k => (Value.slice la L.length lc).ownBlock = some k) w' (.slice la (txt L).length lc) (txt L) := by
      rw [htl]
      refine hss2.frame hfw (fun k hk e => ?_)
      have h1 := (hov.out.lt k e.symm).1
      have h2 := (HO.out.own.lt k hk).2
      omega
    have h2 := Ss.sub h1 m (by omega) (len' := L.length - m) (by omega) (c' := lc - m) rfl ha'
    have e : (txt L).drop m = txt (L.drop m) := by simp [txt]
    rw [e] at h2
    exact h2
  have HLL := hid hll; have HONE := hid hone; have HCL := hid hcells; have HSUB := hid hsub; have HDL := hid hdl
  have hcap0 : (takeB lo 0 L).length + m ≤ 1099511627776 := by unfold takeB; simp; split <;> simp <;> omega
  have HCAP := hid hcap0
  have hn0 : la = none → m = 0 ∧ lc = 0 := fun e => by have := HLN.out e; omega
  have HN0 := hid hn0
  clear hss2 hll hone hcells hsub hcap0 hn0 hdl
  go_wp2_with (at_builtin; go_must (refine wpList_appendN rfl (.tmp 36) (.tmp 42) 29 rfl 9 (.string ByteArray.empty) 16 Tryd.underlying29 Tryd.info_str rfl u5 rfl w.heap.size (takeB lo 0 L).length (sV (txt (takeB lo 0 L))) hov.out la m lc (sV (txt (L.take m))) rfl HLL.out HN0.out HCL.out HONE.out HCAP.out (by decide) hF2.out.size ?_))
  intro v4 w4 ho4 hf4 hnb
  have hge : ∀ q, some q = u5.ownBlock → w.heap.size ≤ q := fun q e => (hov.out.lt q e.symm).1
  have hX := heap_lt HO.out.heap
  have hlv := HO.out.own.lt
  have hO4 := hO2.out.frame hf4 (fun e => by have := hge X e; omega) (fun q hq e => by have := hge q e; have := (hlv q hq).2; omega)
  have hF4 : Fr (fun k => k = X) w w4 := hF2.out.trans hf4 (fun _ _ h => h) (fun q hq e => by have := hge q e; omega)
  have hT : takeB lo m L = takeB lo 0 L ++ L.take m := by simp [takeB]
  have ho5 : w4.ownsRow w.heap.size 9 1 v4 (takeB lo m L).length (sV (txt (takeB lo m L))) := by
    have e1 : (takeB lo m L).length = (takeB lo 0 L).length + m := by rw [hT, List.length_append]; simp; omega
    have e2 : sV (txt (takeB lo m L)) = sV (txt (takeB lo 0 L)) ++ sV (txt (L.take m)) := by rw [hT]; simp [sV, txt]
    rw [e1, e2]
    exact ho4
  have HF4r := hid hf4; have HO4 := hid hO4; have HF4 := hid hF4; have HO5 := hid ho5
  obtain ⟨d0, d1, d2, dz⟩ := hO4.cells
  clear c0 c1 c2 hfz ho4 hf4 hnb hge hX hlv hO4 hF4 hT ho5
  have hdlI : (txt (L.drop m)).length ≤ 2097152 := by rw [HDL.out]; omega
  have HDI := hid hdlI
  have hend : ∀ (v6 : Value) (w6 : World), w6.ownsRow w4.heap.size 9 1 v6 (txt (L.drop m)).length (sV (txt (L.drop m))) → Fr (fun _ => False) w4 w6 →
      (w6.setCell ⟨X, 2, none⟩ v6).ownsRow w.heap.size 9 1 v4 (takeB lo m L).length (sV (txt (takeB lo m L))) ∧ RAt base (w6.setCell ⟨X, 2, none⟩ v6) X most l2 v6 (L.drop m) ∧ Fr (fun k => k = X) w (w6.setCell ⟨X, 2, none⟩ v6) ∧ (∀ k, v6.ownBlock = some k → w.heap.size ≤ k) := by
    intro v6 w6 h6 hf6
    have hR6 := HO4.out.frame hf6 not_false (fun _ _ => not_false)
    have hs4 := HF4.out.size
    have hb6 : w6.ownsRow base 9 1 v6 (L.drop m).length (sV (txt (L.drop m))) := by
      have h7 := own_base' h6 (b' := base) (by have := HB.out; omega)
      simpa [txt] using h7
    refine ⟨?_, hR6.setL (OwnO.of_owns hb6), (HF4.out.trans' (hf6.mono fun _ _ h => h.elim)).setCell (p := ⟨X, 2, none⟩) (.inl rfl) _, fun k hk => by have := (h6.lt k hk).1; omega⟩
    have h8 := hf6.own HO5.out (fun _ _ => not_false)
    exact ((Fr.refl (fun k => k = X) w6).setCell (p := ⟨X, 2, none⟩) (.inl rfl) v6).own h8 (fun k hk e => own_ne_cells h8 hR6.heap (by decide) k hk e)
  have HEND := hid hend
  have hfz6 : ∀ (w6 : World), Fr (fun _ => False) w4 w6 → w6.cell? ⟨X, 2, none⟩ = some (.slice la L.length lc) ∧ w6.frozen? ⟨X, 2, none⟩ = false := fun w6 h6 => by
    have hR6 := HO4.out.frame h6 not_false (fun _ _ => not_false)
    exact ⟨hR6.cells.2.2.1, hR6.cells.2.2.2 2⟩
  have HFZ6 := hid hfz6
  clear hend hdlI hfz6
  rcases HADR.out with rfl | ⟨b1, o1, rfl⟩
  · have hl0 : L.length = 0 := (HLN.out rfl).2
    have hc0 : lc = 0 := (HLN.out rfl).1
    have hm0 : m = 0 := by omega
    have HS := hid (HSUB.out w4 none (by simp) HF4r.out)
    rw [hl0, hc0] at d2
    rw [hm0, hl0, hc0] at HS
    simp only [Nat.sub_self] at HS
    subst hc0
    rw [hl0] at HFZ6
    clear hl0 hmlc hmL hlI
    subst hm0
    go_wp2_with fail
    refine (texts_any _ (txt (L.drop 0)) w4 _ HS.out HDI.out).mono ?_
    rintro e w6 ⟨v6, rfl, ho6, hf6⟩
    obtain ⟨g1, g2, g3, g4⟩ := HEND.out v6 w6 ho6 hf6
    obtain ⟨q1, q2⟩ := HFZ6.out w6 hf6
    obtain ⟨a6, n6, c6, rfl⟩ : ∃ a n c, v6 = .slice a n c := by obtain ⟨a, c, h, -⟩ := own_len ho6; exact ⟨a, _, c, h⟩
    have G1 := hid g1; have G2 := hid g2; have G3 := hid g3; have G4 := hid g4
    clear g1 g2 g3 g4 ho6 hf6 d0 d1 d2 dz
    go_wp2_with fail
    go_ret
    exact ⟨_, _, rfl, G1.out, G2.out, G3.out, G4.out⟩
  · by_cases hlm : lc = m
    · have HS := hid (HSUB.out w4 (some ⟨b1, o1, none⟩) (by rw [if_pos hlm]) HF4r.out)
      have HLM2 := hid hlm
      clear hlm
      have hlm : lc = m := HLM2.out
      go_wp2_with fail
      refine (texts_any _ (txt (L.drop m)) w4 _ (by have h := HS.out; rw [HLM2.out, Nat.sub_self] at h; exact h) HDI.out).mono ?_
      rintro e w6 ⟨v6, rfl, ho6, hf6⟩
      obtain ⟨g1, g2, g3, g4⟩ := HEND.out v6 w6 ho6 hf6
      obtain ⟨q1, q2⟩ := HFZ6.out w6 hf6
      obtain ⟨a6, n6, c6, rfl⟩ : ∃ a n c, v6 = .slice a n c := by obtain ⟨a, c, h, -⟩ := own_len ho6; exact ⟨a, _, c, h⟩
      have G1 := hid g1; have G2 := hid g2; have G3 := hid g3; have G4 := hid g4
      clear g1 g2 g3 g4 ho6 hf6 d0 d1 d2 dz
      go_wp2_with fail
      go_ret
      exact ⟨_, _, rfl, G1.out, G2.out, G3.out, G4.out⟩
    · have HS := hid (HSUB.out w4 (some ⟨b1, o1 + m, none⟩) (by rw [if_neg hlm]; simp [Addr.add]) HF4r.out)
      go_wp2_with fail
      refine (texts_any _ (txt (L.drop m)) w4 _ HS.out HDI.out).mono ?_
      rintro e w6 ⟨v6, rfl, ho6, hf6⟩
      obtain ⟨g1, g2, g3, g4⟩ := HEND.out v6 w6 ho6 hf6
      obtain ⟨q1, q2⟩ := HFZ6.out w6 hf6
      obtain ⟨a6, n6, c6, rfl⟩ : ∃ a n c, v6 = .slice a n c := by obtain ⟨a, c, h, -⟩ := own_len ho6; exact ⟨a, _, c, h⟩
      have G1 := hid g1; have G2 := hid g2; have G3 := hid g3; have G4 := hid g4
      clear g1 g2 g3 g4 ho6 hf6 d0 d1 d2 dz
      go_wp2_with fail
      go_ret
      exact ⟨_, _, rfl, G1.out, G2.out, G3.out, G4.out⟩
end Go.Proofs.YtlfiljebfnejbaaDoor
