/- The document's queue of lines: Put. -/
import Derived.Test.YtlfiljebfnejbaaDoorRefOut
import Derived.Test.YtlfiljebfnejbaaDoorPair
namespace Go.Proofs.YtlfiljebfnejbaaDoor
open Go.RowKit

theorem RAt.neX {base X : Nat} {w : World} {most lost : Int} {lv : Value} {L : List (List UInt8)} (h : RAt base w X most lost lv L) : ∀ k, lv.ownBlock = some k → k ≠ X := h.own.ne_cells h.heap (by decide)
theorem RAt.setL {base X : Nat} {w : World} {most lost : Int} {lv lv2 : Value} {L L2 : List (List UInt8)} (h : RAt base w X most lost lv L) (ho : OwnO base 9 w lv2 L2.length (sV (txt L2))) : RAt base (w.setCell ⟨X, 2, none⟩ lv2) X most lost lv2 L2 :=
  ⟨setCell_row 2 _ h.heap, ho.frame ((Fr.refl (fun k => k = X) w).setCell (p := ⟨X, 2, none⟩) (.inl rfl) _) (ho.ne_cells h.heap (by decide)), h.le⟩
theorem RAt.setLost {base X : Nat} {w : World} {most lost : Int} {lv : Value} {L : List (List UInt8)} (h : RAt base w X most lost lv L) (u : Int) : RAt base (w.setCell ⟨X, 1, none⟩ (.int .i64 u)) X most u lv L :=
  ⟨setCell_row 1 _ h.heap, h.own.frame ((Fr.refl (fun k => k = X) w).setCell (p := ⟨X, 1, none⟩) (.inl rfl) _) h.neX, h.le⟩
theorem OwnO.ss {base : Nat} {w : World} {v : Value} {L : List (List UInt8)} (h : OwnO base 9 w v L.length (sV (txt L))) : Ss (fun k => v.ownBlock = some k) w v (txt L) := by
  obtain ⟨a, c, rfl, h1, h2, h3, h4⟩ := h.shape
  have hl : (txt L).length = L.length := by simp [txt]
  refine ⟨a, c, by rw [hl], by rw [hl]; exact h1, h2, fun k hk => ?_⟩
  obtain ⟨b, o, rfl, hc⟩ := h4 k (by rw [hl] at hk; exact hk)
  refine ⟨b, o, rfl, rfl, ?_⟩
  rw [hc]
  rw [hl] at hk
  simp [sV, txt, List.getD, hk]
set_option maxRecDepth 100000 in
set_option maxHeartbeats 1600000 in
theorem rput_any (base X most lost : Nat) (lv : Value) (L : List (List UInt8)) (s : ByteArray) (w : World) (hO : RAt base w X most lost lv L) (hm1 : 1 ≤ most) (hm2 : most ≤ 1048576) (hu : usedB L ≤ most) (hlo : lost ≤ 1000000) (hs : s.size ≤ 1048576) (hb : base ≤ w.heap.size) :
    Calls Tryd.prog 16 #[.pointer (some ⟨X, 0, none⟩), .string s] w fun e w' => e = .returned (.tuple #[]) ∧ ∃ lv', RAt base w' X most ((dropTo most (L ++ [clean (most - 1) s.data.toList]) lost).2 : Nat) lv' (dropTo most (L ++ [clean (most - 1) s.data.toList]) lost).1 ∧ Fr (fun k => k = X) w w' ∧ (∀ k, lv'.ownBlock = some k → w.heap.size ≤ k) := by
  have HO := hid hO; have HM2 := hid hm2; have HU := hid hu; have HLO := hid hlo; have HS := hid hs; have HBB := hid hb
  have hmI : (most : Int) ≤ 1048576 := by omega
  have hsI : (s.size : Int) ≤ 1048576 := by omega
  have hsl : s.data.toList.length = s.size := by simp
  have HSL := hid hsl
  clear hO hm2 hu hlo hs hb hsl
  go_enter Tryd.func16, Tryd.ntmps16
  go_wp2_with fail
  go_loopw [4, 5] (fun v i wr => ∃ k : Nat, k ≤ s.size ∧ i = .int .i64 k ∧ wr.ownsRow w.heap.size 5 1 v (clean (most - 1) (s.data.toList.take k)).length (bV (clean (most - 1) (s.data.toList.take k))) ∧ Fr (fun _ => False) w wr) (fun _ i _ => s.size - (intOf i).toNat)
  case atStart => exact ⟨0, Nat.zero_le _, rfl, World.ownsRow_nil _ _ _ _, Fr.refl _ _⟩
  case round =>
    obtain ⟨k, hk, rfl, hO, hf⟩ := hrel
    have hO1 := HO.out.frame hf not_false (fun _ _ => not_false)
    obtain ⟨c0, c1, c2, hfz⟩ := hO1.cells
    by_cases hlt : k < s.size
    · have hst := clean_take (most - 1) s.data.toList k (by rw [HSL.out]; exact hlt)
      have hbk : s.data.toList.getD k 0 = s[k] := by
        have : k < s.data.toList.length := by rw [HSL.out]; exact hlt
        simp [List.getD, hlt]; rfl
      rw [hbk] at hst
      have hln := clean_len (most - 1) (s.data.toList.take k)
      generalize clean (most - 1) (s.data.toList.take k) = cl at *
      obtain ⟨va, vc, rfl, -⟩ := own_len hO
      have hlnI : (cl.length : Int) ≤ 1048576 := by omega
      have HST := hid hst; have HOW := hid hO; have HF := hid hf; have HO1 := hid hO1; have HLN := hid hln
      have hbs : w.heap.size ≤ (wr.alloc (.cells #[.int .u8 s[k].toNat] 5)).heap.size := by have := HF.out.size; simp; omega
      have hown := World.ownsRow.alloc hO (.cells #[.int .u8 s[k].toNat] 5)
      have hc1 := cell_new1 wr (.int .u8 s[k].toNat) 5 (0, 0)
      have hn1 : cl.length + 1 ≤ 1099511627776 := by omega
      have HBS := hid hbs; have HOWA := hid hown; have HC1 := hid hc1; have HN1 := hid hn1
      clear hst hO hf hO1 hbk hln hbs hown hc1 hn1
      have hcase : (32 ≤ s[k].toNat ∧ s[k].toNat ≤ 126 ∧ (cl.length : Int) < (most : Int) - 1 ∧ Hid (cleanStep (most - 1) cl s[k] = cl ++ [s[k]])) ∨ (Hid (cleanStep (most - 1) cl s[k] = cl) ∧ ¬ 32 ≤ s[k].toNat) ∨ (Hid (cleanStep (most - 1) cl s[k] = cl) ∧ 32 ≤ s[k].toNat ∧ ¬ s[k].toNat ≤ 126) ∨ (Hid (cleanStep (most - 1) cl s[k] = cl) ∧ 32 ≤ s[k].toNat ∧ s[k].toNat ≤ 126 ∧ ¬ (cl.length : Int) < (most : Int) - 1) := by
        by_cases h1 : 32 ≤ s[k].toNat
        · by_cases h2 : s[k].toNat ≤ 126
          · have hp : pln s[k].toNat = true := by unfold pln; simp; omega
            by_cases h3 : (cl.length : Int) < (most : Int) - 1
            · have h4 : cl.length < most - 1 := by omega
              exact .inl ⟨h1, h2, h3, hid (by simp [cleanStep, hp, h4])⟩
            · have h4 : ¬ cl.length < most - 1 := by omega
              exact .inr (.inr (.inr ⟨hid (by simp [cleanStep, h4]), h1, h2, h3⟩))
          · have hp : pln s[k].toNat = false := by unfold pln; simp; omega
            exact .inr (.inr (.inl ⟨hid (by simp [cleanStep, hp]), h1, h2⟩))
        · have hp : pln s[k].toNat = false := by unfold pln; simp; omega
          exact .inr (.inl ⟨hid (by simp [cleanStep, hp]), h1⟩)
      rcases hcase with ⟨g1, g2, g3, HCS⟩ | ⟨HCS, g1⟩ | ⟨HCS, g1, g2⟩ | ⟨HCS, g1, g2, g3⟩
      · have q1 : (32 : Int) ≤ s[k].toNat := by omega
        have q2 : (s[k].toNat : Int) ≤ 126 := by omega
        go_wp2_with (at_builtin; go_must (refine wpList_append1 rfl (.tmp 32) (.tmp 36) 22 rfl 5 (.int .u8 0) 1 Tryd.underlying22 Tryd.info_byte rfl _ rfl w.heap.size cl.length (bV cl) HOWA.out wr.heap.size 1 (.int .u8 s[k].toNat) rfl HC1.out rfl HN1.out (by decide) HBS.out ?_))
        intro g cap w3 ho3 hf3 _
        have hF3 : Fr (fun _ => False) w w3 := (HF.out.alloc (.cells #[.int .u8 s[k].toNat] 5)).trans hf3 (fun _ _ h => h) (fun x hx e => by
          have := HOWA.out.lt x e.symm
          omega)
        have hO3 : w3.ownsRow w.heap.size 5 1 (.slice (some ⟨g, 0, none⟩) (cl.length + 1) cap) (clean (most - 1) (s.data.toList.take (k + 1))).length (bV (clean (most - 1) (s.data.toList.take (k + 1)))) := by
          rw [HST.out, HCS.out]
          simpa [bV] using ho3
        have HF3 := hid hF3; have HO3 := hid hO3
        clear ho3 hf3 hF3 hO3
        go_wp2_with fail
        go_roundw
        case rel => exact ⟨k + 1, by omega, by go_num, HO3.out, HF3.out⟩
        case measure => simp [intOf]; omega
      · have q1 : ¬ (32 : Int) ≤ s[k].toNat := by omega
        go_wp2_with fail
        go_roundw
        case rel => exact ⟨k + 1, by omega, by go_num, by rw [HST.out, HCS.out]; exact HOW.out, HF.out⟩
        case measure => simp [intOf]; omega
      · have q1 : (32 : Int) ≤ s[k].toNat := by omega
        have q2 : ¬ (s[k].toNat : Int) ≤ 126 := by omega
        go_wp2_with fail
        go_roundw
        case rel => exact ⟨k + 1, by omega, by go_num, by rw [HST.out, HCS.out]; exact HOW.out, HF.out⟩
        case measure => simp [intOf]; omega
      · have q1 : (32 : Int) ≤ s[k].toNat := by omega
        have q2 : (s[k].toNat : Int) ≤ 126 := by omega
        go_wp2_with fail
        go_roundw
        case rel => exact ⟨k + 1, by omega, by go_num, by rw [HST.out, HCS.out]; exact HOW.out, HF.out⟩
        case measure => simp [intOf]; omega
    · obtain rfl : k = s.size := by omega
      rw [show s.data.toList.take s.size = s.data.toList by rw [← HSL.out, List.take_length]] at hO
      have hln := clean_len (most - 1) s.data.toList
      generalize hcl : clean (most - 1) s.data.toList = cl at *
      obtain ⟨va, vc, rfl, -⟩ := own_len hO
      have HOW := hid hO; have HF := hid hf; have HO1 := hid hO1; have HLN := hid hln; have HCL := hid hcl
      clear hO hf hO1 hln hcl
      have hcv : ∀ w', Fr (fun _ => False) wr w' → (convert 22 9 (.slice va cl.length vc)).run Tryd.prog w' = .ok (.string ⟨cl.toArray⟩) w' := fun w' h => conv_bytes (Bs.own (h.own HOW.out (fun _ _ => not_false))) 22 5 9 Tryd.underlying22 Tryd.underlying5 Tryd.underlying9
      have HCV := hid hcv
      have hll := len_usedB L
      have hLm : L.length ≤ 1048576 := by have := HU.out; have := HM2.out; omega
      clear hcv hll
      go_upto_region 6 with fail
      refine wp_region_pair [(0, 0), (1, 0), (2, 0), (3, 0), (4, 0), (6, 0), (7, 0), (5, 11), (9, 1), (10, 1), (11, 1), (12, 1)] (fun w' => Fr (fun _ => False) wr w') (by kernel_rfl) (by kernel_rfl) (by kernel_rfl) rfl (fun _ _ d _ _ h => by cases d <;> exact h) (Fr.refl _ _).drew ?_
      iterate 7 (refine wpP_take ?_ rfl (by kernel_rfl) ?_ ?_; rotate_left; (· intro w' hS; have hc2 := Fr.cell hS c2 not_false; have hcv := HCV.out w' hS; go_simp; try with_reducible rfl); (try simp only [Act.put, List.setIfInBounds_toArray, List.set_cons_zero, List.set_cons_succ]))
      refine wpP_pair' (fun u v w' => ∃ g, v = .slice (some ⟨g, 0, none⟩) 1 1 ∧ w'.cell? ⟨g, 0, none⟩ = some (.string ⟨cl.toArray⟩) ∧ w'.ownsRow wr.heap.size 9 1 u L.length (sV (txt L))) rfl rfl (by kernel_rfl) (by kernel_rfl) (fun _ => by kernel_rfl) (fun _ => by kernel_rfl) (fun _ _ => rfl) ?_ ?_ ?_
      · intro K1 hK1
        go_simp
        refine (texts_any lv (txt L) wr.drew _ (OwnO.ss (HO1.out.frame (Fr.refl (fun _ => False) wr).drew not_false (fun _ _ => not_false)).own) (by simp [txt]; omega)).mono ?_
        rintro e w5 ⟨v5, rfl, ho5, hf5⟩
        have hf6 := (Fr.refl (fun _ => False) wr).drew.trans' hf5
        refine hK1 v5 w5 hf6 (fun K2 hK2 => ?_)
        go_simp
        refine hK2 (.slice (some ⟨w5.heap.size, 0, none⟩) 1 1) _ (hf6.alloc _) ⟨w5.heap.size, rfl, cell_new1 _ _ _ _, ?_⟩
        have h1 := World.ownsRow.alloc ho5 (.cells #[.string ⟨cl.toArray⟩] 9)
        simpa [txt] using h1
      · intro K1 hK1
        go_simp
        refine hK1 (.slice (some ⟨wr.drew.heap.size, 0, none⟩) 1 1) _ ((Fr.refl (fun _ => False) wr).drew.alloc _) (fun K2 hK2 => ?_)
        have hfa := ((Fr.refl (fun _ => False) wr).drew.alloc (.cells #[.string ⟨cl.toArray⟩] 9))
        go_simp
        refine (texts_any lv (txt L) (wr.drew.alloc (.cells #[.string ⟨cl.toArray⟩] 9)) _ (OwnO.ss (HO1.out.frame hfa not_false (fun _ _ => not_false)).own) (by simp [txt]; omega)).mono ?_
        rintro e w5 ⟨v5, rfl, ho5, hf5⟩
        refine hK2 v5 w5 (hfa.trans' hf5) ⟨wr.drew.heap.size, rfl, hf5.cell (cell_new1 _ _ _ _) not_false, ?_⟩
        have h1 : w5.ownsRow wr.heap.size 9 1 v5 (txt L).length (sV (txt L)) := own_base' ho5 (by simp)
        simpa [txt] using h1
      · rintro u v w4 hS4 ⟨g, rfl, hg4, ho4⟩
        obtain ⟨ua, uc, rfl, -⟩ := own_len ho4
        try simp only [Act.put, List.setIfInBounds_toArray, List.set_cons_zero, List.set_cons_succ]
        refine wpP_run rfl (by kernel_rfl) (fun K hK => ?_)
        refine wp_append1 (.tmp 43) (.tmp 46) 29 rfl 9 (.string ByteArray.empty) 16 Tryd.underlying29 Tryd.info_str rfl _ rfl wr.heap.size L.length (sV (txt L)) ho4 g 1 (.string ⟨cl.toArray⟩) rfl hg4 rfl (by omega) (by decide) hS4.size ?_
        intro g5 cap5 w5 ho5 hf5 _
        have hS5 : Fr (fun _ => False) wr w5 := hS4.trans hf5 (fun _ _ h => h) (fun q hq e => by
          have := (ho4.lt q e.symm).1
          omega)
        refine hK _ _ (fun _ => hS5) ?_
        clear hK K
        try simp only [Act.put, List.setIfInBounds_toArray, List.set_cons_zero, List.set_cons_succ]
        have hO5 := HO1.out.frame hS5 not_false (fun _ _ => not_false)
        obtain ⟨d0, d1, d2, dz⟩ := hO5.cells
        have hL5 : sV (txt L) ++ [.string ⟨cl.toArray⟩] = sV (txt (L ++ [cl])) := by simp [sV, txt]
        have ho6 : w5.ownsRow wr.heap.size 9 1 (.slice (some ⟨g5, 0, none⟩) (L.length + 1) cap5) (L ++ [cl]).length (sV (txt (L ++ [cl]))) := by
          rw [← hL5, List.length_append]
          exact ho5
        have HO5 := hid hO5; have HOW6 := hid ho6; have HS5 := hid hS5
        clear hS4 hg4 ho4 ho5 hf5 hO5 hL5 ho6 hS5
        refine wpP_run rfl (by kernel_rfl) (fun K hK => ?_)
        go_simp
        refine hK _ _ (last_skip (by kernel_rfl)) ?_
        clear hK K
        try simp only [Act.put, List.setIfInBounds_toArray, List.set_cons_zero, List.set_cons_succ]
        refine wpP_run rfl (by kernel_rfl) (fun K hK => ?_)
        go_simp
        refine hK _ _ (last_skip (by kernel_rfl)) ?_
        clear hK K
        try simp only [Act.put, List.setIfInBounds_toArray, List.set_cons_zero, List.set_cons_succ]
        refine wpP_run rfl (by kernel_rfl) (fun K hK => ?_)
        go_simp
        refine hK _ _ (last_skip (by kernel_rfl)) ?_
        clear hK K
        try simp only [Act.put, List.setIfInBounds_toArray, List.set_cons_zero, List.set_cons_succ]
        refine wpP_end ?_
        have hbw : base ≤ wr.heap.size := by have := HF.out.size; have := HBB.out; omega
        have hO7 : RAt base _ X most lost _ (L ++ [cl]) := HO5.out.setL (OwnO.of_owns (own_base' HOW6.out hbw))
        have hF7 := (HF.out.trans' HS5.out).mono (T := fun k => k = X) (fun _ _ h => h.elim) |>.setCell (p := ⟨X, 2, none⟩) (.inl rfl) (.slice (some ⟨g5, 0, none⟩) (L.length + 1) cap5)
        have hbk : ∀ k, (Value.slice (some ⟨g5, 0, none⟩) (L.length + 1) cap5).ownBlock = some k → w.heap.size ≤ k := fun k hk => by
          have h1 := (HOW6.out.lt k hk).1
          have h2 := HF.out.size
          omega
        have HO7 := hid hO7; have HF7 := hid hF7; have HBK := hid hbk
        clear hO7 hF7 hbk d0 d1 d2 dz c0 c1 c2 hfz
        generalize w5.setCell ⟨X, 2, none⟩ (.slice (some ⟨g5, 0, none⟩) (L.length + 1) cap5) = w6 at *
        have hub6 : usedB (L ++ [cl]) ≤ 2097152 := by have h1 := HU.out; have h2 := HM2.out; have h3 := HLN.out; rw [usedB_snoc]; omega
        have HUB6 := hid hub6
        clear hub6 HO5 HOW6 HS5
        generalize hM : L ++ [cl] = M at *
        have HM := hid hM
        clear hM
        go_wp2_with fail
        go_loopw [] (fun wr => ∃ (j : Nat) (a : Option Addr) (c : Nat), j ≤ M.length ∧ Hid (RAt base wr X most (lost + j : Nat) (.slice a (M.length - j) c) (M.drop j)) ∧ Hid (dropTo most (M.drop j) (lost + j) = dropTo most M lost) ∧ Hid (Fr (fun k => k = X) w wr) ∧ Hid (∀ k, (Value.slice a (M.length - j) c).ownBlock = some k → w.heap.size ≤ k)) (fun wr => match wr.cell? ⟨X, 2, none⟩ with | some (.slice _ n _) => n | _ => 0)
        case atStart => exact ⟨0, _, cap5, Nat.zero_le _, hid (by rw [List.drop_zero, Nat.sub_zero, ← HM.out, List.length_append]; rw [← HM.out] at HO7; exact HO7.out), hid (by rw [List.drop_zero]; rfl), hid HF7.out, hid (by rw [Nat.sub_zero, ← HM.out, List.length_append]; exact HBK.out)⟩
        case round =>
          obtain ⟨j, a, c, hj, HA, HD, HFw, HBw⟩ := hrel
          obtain ⟨d0, d1, d2, dz⟩ := HA.out.cells
          have hub7 : (usedB (M.drop j) : Int) ≤ 2097152 := by have := usedB_drop M j; have := HUB6.out; omega
          have hlj : (lost : Int) + j ≤ 4000000 := by have := HLO.out; have := len_usedB M; have := HUB6.out; omega
          have hcu : ∀ w', Fr (fun _ => False) wr w' → Calls Tryd.prog 19 #[.pointer (some ⟨X, 0, none⟩)] w' fun e w'' => e = .returned (.int .i64 (usedB (M.drop j) : Nat)) ∧ Fr (fun _ => False) wr w'' := fun w' hw => (rused_any base X most _ _ (M.drop j) w' (HA.out.frame hw not_false (fun _ _ => not_false)) (by omega)).mono fun _ _ h => ⟨h.1, h.2 ▸ hw⟩
          have HCU := hid hcu
          clear hcu
          by_cases hgt : most < usedB (M.drop j)
          · have hgtI : (most : Int) < (usedB (M.drop j) : Nat) := by omega
            obtain ⟨x, r, hdr⟩ : ∃ x r, M.drop j = x :: r := by
              cases h : M.drop j with
              | nil => rw [h] at hgt; simp [usedB] at hgt
              | cons x r => exact ⟨x, r, rfl⟩
            have hjl : j < M.length := by
              rcases Nat.lt_or_ge j M.length with h | h
              · exact h
              · rw [List.drop_of_length_le h] at hdr; cases hdr
            have hdr1 : M.drop (j + 1) = r := by rw [← List.drop_drop, hdr]; rfl
            obtain ⟨ax, cx, ecx, hlx, hmx, hnx, hcx⟩ := HA.out.own.shape
            simp only [Value.slice.injEq] at ecx
            obtain ⟨rfl, hlen, rfl⟩ := ecx
            obtain ⟨b1, o1, rfl, -⟩ := hcx 0 (by omega)
            have hdt : dropTo most (M.drop j) (lost + j) = dropTo most r (lost + (j + 1)) := by rw [hdr, dropTo, ← hdr, if_pos hgt]; rfl
            have hc1 : 1 ≤ c := by omega
            have hpos0 : 0 < M.length - j := by omega
            have hposI : (0 : Int) < ((M.length - j : Nat) : Int) := by omega
            have HDR := hid hdr; have HDR1 := hid hdr1; have HDT := hid hdt; have HLEN := hid hlen
            clear hdr hdr1 hdt hlx hmx hnx hcx hlen
            go_upto_region 7 with fail
            refine wp_region_cls (fun w' => Fr (fun _ => False) wr w') (by kernel_rfl) (by kernel_rfl) (Fr.refl _ _).drew ?_
            (refine q_take ?_ (by kernel_rfl) ?_ ?_; rotate_left; (· intro w' hS; have hc0 := Fr.cell hS d0 not_false; go_simp; try with_reducible rfl); (try simp only [Act.put, List.setIfInBounds_toArray, List.set_cons_zero, List.set_cons_succ]))
            (refine q_call ?_ ?_ (by kernel_rfl) ?_ ?_; rotate_left 2; (· intro w' hS; go_simp; first | with_reducible rfl | (constructor <;> with_reducible rfl)); (refine ⟨_, fun w' hw => HCU.out w' hw, ?_⟩); (try simp only [Act.put, List.setIfInBounds_toArray, List.set_cons_zero, List.set_cons_succ]))
            iterate 5 (refine q_take ?_ (by kernel_rfl) ?_ ?_; rotate_left; (· intro w' hS; have hc0 := Fr.cell hS d0 not_false; go_simp; try with_reducible rfl); (try simp only [Act.put, List.setIfInBounds_toArray, List.set_cons_zero, List.set_cons_succ]))
            refine q_end (fun W9 hw9 => ?_)
            have hA9 := HA.out.frame hw9 not_false (fun _ _ => not_false)
            have hF9 := HFw.out.trans' (hw9.mono (T := fun k => k = X) (fun _ _ h => h.elim))
            have HF9 := hid hF9; have HA9 := hid hA9
            have e2 := hA9.cells
            have hsz : (match wr.cell? ⟨X, 2, none⟩ with | some (.slice _ n _) => n | _ => 0) = M.length - j := by rw [d2]
            have HSZ := hid hsz
            clear hw9 hA9 hF9 d0 d1 d2 dz hsz
            obtain ⟨d0, d1, d2, dz⟩ := e2
            go_wp2_with fail
            have hT : OwnO base 9 W9 (.slice (if c = 1 then some ⟨b1, o1, none⟩ else some ⟨b1, o1 + 1, none⟩) (M.length - j - 1) (c - 1)) (M.drop (j + 1)).length (sV (txt (M.drop (j + 1)))) := by
              have h1 := HA9.out.own
              rw [HDR.out, show M.length - j = r.length + 1 by have := HLEN.out; rw [HDR.out] at this; simpa using this] at h1
              have h2 := OwnO.tail (x := .string ⟨x.toArray⟩) (xs := sV (txt r)) (n := r.length) (a' := if c = 1 then some ⟨b1, o1, none⟩ else some ⟨b1, o1 + 1, none⟩) h1 (by split <;> rfl)
              rw [HDR1.out, show M.length - j - 1 = r.length by have := HLEN.out; rw [HDR.out] at this; simp at this; omega]
              exact h2
            have hR9 := (HA9.out.setL hT).setLost ((lost : Int) + j + 1)
            have hF10 := (HF9.out.setCell (p := ⟨X, 2, none⟩) (.inl rfl) (.slice (if c = 1 then some ⟨b1, o1, none⟩ else some ⟨b1, o1 + 1, none⟩) (M.length - j - 1) (c - 1))).setCell (p := ⟨X, 1, none⟩) (.inl rfl) (.int .i64 ((lost : Int) + j + 1))
            have hown2 : ∀ k, (Value.slice (if c = 1 then some ⟨b1, o1, none⟩ else some ⟨b1, o1 + 1, none⟩) (M.length - j - 1) (c - 1)).ownBlock = some k → (Value.slice (some ⟨b1, o1, none⟩) (M.length - j) c).ownBlock = some k := fun k hk => by
              by_cases h : c = 1
              · rw [if_pos h] at hk; exact hk
              · rw [if_neg h] at hk; exact hk
            have hB1 := RAt.cells hR9
            generalize (W9.setCell ⟨X, 2, none⟩ (.slice (if c = 1 then some ⟨b1, o1, none⟩ else some ⟨b1, o1 + 1, none⟩) (M.length - j - 1) (c - 1))).setCell ⟨X, 1, none⟩ (.int .i64 ((lost : Int) + j + 1)) = W10 at *
            have hdl : (M.drop (j + 1)) = r := HDR1.out
            refine ⟨⟨j + 1, if c = 1 then some ⟨b1, o1, none⟩ else some ⟨b1, o1 + 1, none⟩, c - 1, by omega, hid ?_, hid ?_, hid ?_, hid ?_⟩, ?_⟩
            · rw [show M.length - (j + 1) = M.length - j - 1 by omega, show (((lost + (j + 1) : Nat)) : Int) = (lost : Int) + j + 1 by omega]
              exact hR9
            · rw [hdl, ← HDT.out]; exact HD.out
            · exact hF10
            · intro k hk
              rw [show M.length - (j + 1) = M.length - j - 1 by omega] at hk
              exact HBw.out k (hown2 k hk)
            · rw [hB1.2.2.1, HSZ.out]
              show M.length - j - 1 < M.length - j
              omega
          · have hle : ¬ (most : Int) < (usedB (M.drop j) : Nat) := by omega
            go_upto_region 7 with fail
            refine wp_region_cls (fun w' => Fr (fun _ => False) wr w') (by kernel_rfl) (by kernel_rfl) (Fr.refl _ _).drew ?_
            (refine q_take ?_ (by kernel_rfl) ?_ ?_; rotate_left; (· intro w' hS; have hc0 := Fr.cell hS d0 not_false; go_simp; try with_reducible rfl); (try simp only [Act.put, List.setIfInBounds_toArray, List.set_cons_zero, List.set_cons_succ]))
            (refine q_call ?_ ?_ (by kernel_rfl) ?_ ?_; rotate_left 2; (· intro w' hS; go_simp; first | with_reducible rfl | (constructor <;> with_reducible rfl)); (refine ⟨_, fun w' hw => HCU.out w' hw, ?_⟩); (try simp only [Act.put, List.setIfInBounds_toArray, List.set_cons_zero, List.set_cons_succ]))
            iterate 5 (refine q_take ?_ (by kernel_rfl) ?_ ?_; rotate_left; (· intro w' hS; have hc0 := Fr.cell hS d0 not_false; go_simp; try with_reducible rfl); (try simp only [Act.put, List.setIfInBounds_toArray, List.set_cons_zero, List.set_cons_succ]))
            refine q_end (fun W9 hw9 => ?_)
            have hA9 := HA.out.frame hw9 not_false (fun _ _ => not_false)
            have hF9 := HFw.out.trans' (hw9.mono (T := fun k => k = X) (fun _ _ h => h.elim))
            have HF9 := hid hF9; have HA9 := hid hA9
            have e2 := hA9.cells
            have hsz : (match wr.cell? ⟨X, 2, none⟩ with | some (.slice _ n _) => n | _ => 0) = M.length - j := by rw [d2]
            have HSZ := hid hsz
            clear hw9 hA9 hF9 d0 d1 d2 dz hsz
            obtain ⟨d0, d1, d2, dz⟩ := e2
            go_wp2_with fail
            have hdt : dropTo most (M.drop j) (lost + j) = (M.drop j, lost + j) := by
              cases hdr : M.drop j with
              | nil => rfl
              | cons x r => rw [dropTo, ← hdr, if_neg hgt]
            have hfin : dropTo most M lost = (M.drop j, lost + j) := by rw [← HD.out, hdt]
            have HFIN := hid hfin
            clear hdt hfin
            try go_wp2_with fail
            go_end0
            refine ⟨rfl, _, ?_, HF9.out, HBw.out⟩
            rw [HCL.out, HM.out, HFIN.out]
            exact HA9.out
end Go.Proofs.YtlfiljebfnejbaaDoor
