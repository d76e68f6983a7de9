/- Package disk: Clone's walk. -/
import Derived.Test.YtlhbgobjhddhlaaGreatDoorDiskCn
namespace Go.Proofs.YtlhbgobjhddhlaaGreatDoor
open Go.RowKit
variable {base : Nat} {w w' wr w2 : World} {s : DS} {B : Nat} {cv : Value} {N K : Nm} {C : List Chg} {M : List (Nat × Nat)}

set_option maxRecDepth 100000 in
set_option maxHeartbeats 6400000 in
theorem dclone_any (h : DAt base w s) (hc : s.calls ≤ 1000000) (hb : base ≤ w.heap.size) :
    Calls Tryz.prog 8 #[.pointer (some ⟨s.X, 0, none⟩)] w fun e w' => ∃ cv N K C M, e = .returned (.pointer (some ⟨w.heap.size + 2, 0, none⟩)) ∧ DAt w.heap.size w' (cloneS s w.heap.size cv N K C M) ∧ Fr (fun _ => False) w w' := by
  obtain ⟨ac, cc, hcv, hcl⟩ := own_len h.ch
  have hcr : ∃ g, ac = some ⟨g, 0, none⟩ ∨ (s.ch.length = 0) := by
    rcases own_heap h.ch with ⟨e, h0, -⟩ | ⟨g, cap, e, -⟩
    · exact ⟨0, .inr h0⟩
    · rw [hcv] at e
      simp only [Value.slice.injEq] at e
      exact ⟨g, .inl e.1⟩
  have hcap : s.ch.length ≤ cc ∧ cc ≤ maxLen := by
    rcases h.ch.2 with ⟨e, h0⟩ | ⟨g, cap, cur, e, -, -, h1, h2, -⟩
    · rw [hcv] at e
      simp only [Value.slice.injEq] at e
      obtain ⟨-, e1, e2⟩ := e
      omega
    · rw [hcv] at e
      simp only [Value.slice.injEq] at e
      obtain ⟨-, -, rfl⟩ := e
      exact ⟨h1, h2⟩
  obtain ⟨c0, c1, c2, c3, c4, c5, c6, c7, -⟩ := h.cells
  have hcn := h.cn
  rw [hcv] at c3
  have hmf : ∀ (fn : Fn) (first cap : Array Value) (w : World), (Instr.makeFunc fn first cap).run Tryz.prog w = .ok (.func fn first cap) w := fun _ _ _ _ => rfl
  have HMF := hid hmf
  obtain ⟨n, hn⟩ : ∃ n, s.ch.length = n := ⟨_, rfl⟩
  rw [hn] at c3
  have H := hid h; have HCV := hid hcv; have HN := hid hn; have HCN := hid hcn; have HCR := hid hcr; have HCAP := hid hcap; have HC := hid hc
  have C1 := hid c1; have C2 := hid c2; have C3 := hid c3; have HBB := hid hb
  clear h hcv hcl hn hcn hc hb hcr hcap
  have hmm := @run_makeMap Tryz.prog
  go_enter Tryz.func8, Tryz.ntmps8
  go_upto_region 3 with fail
  have hF1 := ((Fr.refl (fun _ => False) w).alloc (.map #[] 0)).alloc (.cells #[.map (some w.heap.size)] 75)
  have hown := heap_alloc_new (w.alloc (.map #[] 0)) (.cells #[.map (some w.heap.size)] 75)
  have hpm := PMapAt.made w
  have hs1 : (w.alloc (.map #[] 0)).heap.size = w.heap.size + 1 := by simp
  have hpm1 := hpm.frame ((Fr.refl (fun _ => False) (w.alloc (.map #[] 0))).alloc (.cells #[.map (some w.heap.size)] 75)) not_false fun _ _ => not_false
  have hs2 : ((w.alloc (.map #[] 0)).alloc (.cells #[.map (some w.heap.size)] 75)).heap.size = w.heap.size + 2 := by simp
  rw [hs1] at hown
  obtain ⟨B, hB⟩ : ∃ B, w.heap.size = B := ⟨_, rfl⟩
  rw [hB] at hF1 hown hpm1 hs2 ⊢
  have HB := hid hB
  have HPM := hid hpm1; have HOWN := hid hown; have HF1 := hid hF1; have HS2 := hid hs2
  clear hpm hs1 hpm1 hs2 hown hF1 hB
  generalize (w.alloc (.map #[] 0)).alloc (.cells #[.map (some B)] 75) = W1 at *
  replace c0 := HF1.out.cell c0 not_false
  replace c1 := HF1.out.cell c1 not_false
  replace c2 := HF1.out.cell c2 not_false
  replace c3 := HF1.out.cell c3 not_false
  replace c4 := HF1.out.cell c4 not_false
  replace c5 := HF1.out.cell c5 not_false
  replace c6 := HF1.out.cell c6 not_false
  replace c7 := HF1.out.cell c7 not_false
  clear hmm
  go_upto_region 4 with fail
  have hh2 := heap_alloc_new W1 (.cells #[.int .i64 s.room, .map (some s.bn), .map (some s.bk), .slice ac n cc, .int .i64 s.files, .int .i64 s.armed, .bool s.down, .int .i64 s.calls] 62)
  have hF2 := (Fr.refl (fun _ => False) W1).alloc (.cells #[.int .i64 s.room, .map (some s.bn), .map (some s.bk), .slice ac n cc, .int .i64 s.files, .int .i64 s.armed, .bool s.down, .int .i64 s.calls] 62)
  have hs3 : (W1.alloc (.cells #[.int .i64 s.room, .map (some s.bn), .map (some s.bk), .slice ac n cc, .int .i64 s.files, .int .i64 s.armed, .bool s.down, .int .i64 s.calls] 62)).heap.size = B + 3 := by simp [HS2.out]
  rw [HS2.out] at hh2 ⊢
  clear c0 c1 c2 c3 c4 c5 c6 c7
  generalize W1.alloc (.cells #[.int .i64 s.room, .map (some s.bn), .map (some s.bk), .slice ac n cc, .int .i64 s.files, .int .i64 s.armed, .bool s.down, .int .i64 s.calls] 62) = W2 at *
  have fz : ∀ i, W2.frozen? ⟨B + 2, i, none⟩ = false := fun i => frozen_of_row _ _ i _ _ hh2
  have kc : W2.cell? ⟨B + 2, 1, none⟩ = some (.map (some s.bn)) ∧ W2.cell? ⟨B + 2, 2, none⟩ = some (.map (some s.bk)) ∧ W2.cell? ⟨B + 2, 3, none⟩ = some (.slice ac n cc) := by
    refine ⟨?_, ?_, ?_⟩
    all_goals (rw [cell_of_row _ _ _ _ _ _ hh2]; rfl)
  obtain ⟨k1, k2, k3⟩ := kc
  have hmm := @run_makeMap Tryz.prog
  have HH2 := hid hh2; have HF2 := hid hF2; have HS3 := hid hs3
  clear hh2 hF2
  go_upto_region 5 with fail
  have hh3 := setCell_row 3 (.slice none 0 0) (setCell_row 2 (.map (some (B + 3 + 1))) (setCell_row 1 (.map (some (B + 3))) HH2.out))
  simp only [List.setIfInBounds_toArray, List.set_cons_zero, List.set_cons_succ] at hh3
  have hF3 := (((Fr.refl (fun k => k = B + 2) W2).setCell (p := ⟨B + 2, 1, none⟩) (.inl rfl) (.map (some (B + 3)))).setCell (p := ⟨B + 2, 2, none⟩) (.inl rfl) (.map (some (B + 3 + 1)))).setCell (p := ⟨B + 2, 3, none⟩) (.inl rfl) (.slice none 0 0)
  have hs4 : (((W2.setCell ⟨B + 2, 1, none⟩ (.map (some (B + 3)))).setCell ⟨B + 2, 2, none⟩ (.map (some (B + 3 + 1)))).setCell ⟨B + 2, 3, none⟩ (.slice none 0 0)).heap.size = B + 3 := by simp [HS3.out]
  clear k1 k2 k3 fz hmm hs3
  generalize ((W2.setCell ⟨B + 2, 1, none⟩ (.map (some (B + 3)))).setCell ⟨B + 2, 2, none⟩ (.map (some (B + 3 + 1)))).setCell ⟨B + 2, 3, none⟩ (.slice none 0 0) = W3 at *
  have hF01 : Fr (fun _ => False) w W3 := (HF1.out.trans' HF2.out).trans (U := fun _ => False) hF3 (fun _ _ h => h) fun k hk e => by have := HB.out; omega
  have hF13 : Fr (fun k => k = B + 2) W1 W3 := (HF2.out.mono fun _ _ h => h.elim).trans' hF3
  have hown3 := hF13.heap HOWN.out (show ¬ (B + 1 = B + 2) by omega)
  have hpm3 := HPM.out.frame hF13 (show ¬ (B = B + 2) by omega) fun _ h => by cases h
  have hm1 := MapAt.made W3
  have hm2 := MapAt.made (W3.alloc (.map #[] 0))
  have hF4 := (Fr.refl (fun _ => False) W3).alloc (.map #[] 0)
  have hF5 := (Fr.refl (fun _ => False) (W3.alloc (.map #[] 0))).alloc (.map #[] 0)
  have hs5 : (W3.alloc (.map #[] 0)).heap.size = B + 4 := by simp [hs4]
  have hs6 : ((W3.alloc (.map #[] 0)).alloc (.map #[] 0)).heap.size = B + 5 := by simp [hs4]
  rw [hs4] at hm1
  rw [hs5] at hm2
  have hCI : CI s w ((W3.alloc (.map #[] 0)).alloc (.map #[] 0)) B (.slice none 0 0) [] [] [] [] :=
    ⟨HB.out, hF01.trans' (hF4.trans' hF5), hF5.heap (hF4.heap hown3 not_false) not_false, (hpm3.frame hF4 not_false (fun _ _ => not_false)).frame hF5 not_false (fun _ _ => not_false), (fun _ h => by cases h),
      hF5.heap (hF4.heap hh3 not_false) not_false, hm1.frame hF5 not_false, hm2, World.ownsRow_nil _ _ _ _, (fun k hk => by
        rcases hk with ⟨_, h⟩ | ⟨_, h⟩ | ⟨_, h, _⟩ <;> cases h), (fun _ h => by cases h), (fun _ h => by cases h), (fun _ h => by cases h)⟩
  have HCI := hid hCI; have HS6 := hid hs6
  rw [show B + 3 + 1 = B + 4 from rfl]
  clear hh3 hF3 hs4 hF01 hF13 hown3 hpm3 hm1 hm2 hF4 hF5 hs5 hs6 hCI HPM HOWN HF2 HH2 HS2 HS3
  generalize (W3.alloc (.map #[] 0)).alloc (.map #[] 0) = W5 at *
  -- the names
  have c1 := HCI.out.fr.cell C1.out not_false
  obtain ⟨w1, hrun, hra, hf1, hs1⟩ := (H.out.names.frame HCI.out.fr not_false).range
  have hrr := HS6.out
  obtain ⟨rr, hre⟩ : ∃ rr, W5.heap.size = rr := ⟨_, rfl⟩
  rw [hre] at hrun hra
  have HRRN := hid (show B + 5 ≤ rr by omega)
  have HRA := hid hra; have HCI1 := hid (HCI.out.go hf1)
  clear hra hf1 hs1 hrr hre
  go_wp2_with fail
  go_loopw [6, 7] (fun _ _ wr => ∃ (N : Nm) (M : List (Nat × Nat)) (L : Nm), Hid (RangeAt wr s.bn rr s.names L) ∧ Hid (CI s w wr B (.slice none 0 0) N [] [] M) ∧ Hid (N.length + L.length ≤ s.names.length)) (fun _ _ wr => wr.rangeLeft s.bn rr)
  case atStart => exact ⟨[], [], s.names, HRA, HCI1, hid (by simp)⟩
  case round =>
    obtain ⟨N, M, L, HR, HI, HLE⟩ := hrel
    clear HRA HCI1
    rcases HR.out.next 0 with ⟨hL, hrun⟩ | ⟨nm, f, w2, hfL, hfM, hrun, hra2, hf2, hs2, hen, hlt2⟩
    · subst hL
      have HLN := hid (show N.length ≤ s.names.length from by have := HLE.out; simp at this; exact this)
      clear HR HLE
      have c2 := HI.out.fr.cell C2.out not_false
      obtain ⟨w1b, hrunb, hrab, hf1b, hs1b⟩ := (H.out.kept.frame HI.out.fr not_false).range
      obtain ⟨rk, hrk⟩ : ∃ rk, wr.heap.size = rk := ⟨_, rfl⟩
      rw [hrk] at hrunb hrab
      have HRRK := hid (show B + 5 ≤ rk by have h1 := HI.out.kp.lt; omega)
      have HRAK := hid hrab; have HCIK := hid (HI.out.go hf1b)
      clear hrab hf1b hs1b hrk
      go_wp2_with fail
      clear HI
      go_loopw [8, 9] (fun _ _ wr => ∃ (K : Nm) (M : List (Nat × Nat)) (L : Nm), Hid (RangeAt wr s.bk rk s.kept L) ∧ Hid (CI s w wr B (.slice none 0 0) N K [] M) ∧ Hid (K.length + L.length ≤ s.kept.length)) (fun _ _ wr => wr.rangeLeft s.bk rk)
      case atStart => exact ⟨[], M, s.kept, HRAK, HCIK, hid (by simp)⟩
      case round =>
        obtain ⟨K, M, L, HR, HI, HLE⟩ := hrel
        clear HRAK HCIK
        rcases HR.out.next 0 with ⟨hL, hrun⟩ | ⟨nm, f, w2, hfL, hfM, hrun, hra2, hf2, hs2, hen, hlt2⟩
        · subst hL
          have HLK := hid (show K.length ≤ s.kept.length from by have := HLE.out; simp at this; exact this)
          clear HR HLE
          have c3 := HI.out.fr.cell C3.out not_false
          go_wp2_with fail
          go_loopw [59] (fun iv wr => ∃ (i : Nat) (cv : Value) (C : List Chg) (M : List (Nat × Nat)), i ≤ n ∧ iv = .int .i64 i ∧ C.length = i ∧ Hid (CI s w wr B cv N K C M)) (fun iv _ => n - (intOf iv).toNat)
          case atStart => exact ⟨0, .slice none 0 0, [], M, Nat.zero_le _, rfl, rfl, HI⟩
          case round =>
            clear HI c3
            obtain ⟨i, cv, C, M, hi, rfl, hCl, HI⟩ := hrel
            have HCL0 := hid hCl
            clear hCl
            by_cases hlt : i < n
            · have hltI : (i : Int) < (n : Int) := by omega
              obtain ⟨g, rfl⟩ : ∃ g, ac = some ⟨g, 0, none⟩ := by
                obtain ⟨g, e | e⟩ := HCR.out
                · exact ⟨g, e⟩
                · have := HN.out; omega
              obtain ⟨c, hci⟩ : ∃ c, s.ch[i]? = some c := ⟨_, List.getElem?_eq_getElem (by have := HN.out; omega)⟩
              have hg1 := chV_get _ _ _ hci
              have hcells := (H.out.ch).cells (g := g) (by rw [HCV.out]; rfl)
              have hadd : ∀ j, (⟨g, 0, none⟩ : Addr).add j = ⟨g, j, none⟩ := fun j => by unfold Addr.add; split <;> simp_all
              have d0 : wr.cell? ⟨g, i * 3, none⟩ = some (.string c.nm) := HI.out.fr.cell ((hadd _) ▸ hcells _ _ hg1.1) not_false
              have d1 : wr.cell? ⟨g, i * 3 + 1, none⟩ = some (.string c.gn) := HI.out.fr.cell ((hadd _) ▸ hcells _ _ hg1.2.1) not_false
              have d2 : wr.cell? ⟨g, i * 3 + 2, none⟩ = some (pV c.fl) := HI.out.fr.cell ((hadd _) ▸ hcells _ _ hg1.2.2) not_false
              obtain ⟨po, hpo⟩ : ∃ po, pV c.fl = .pointer po := by cases c.fl <;> exact ⟨_, rfl⟩
              rw [hpo] at d2
              have hsz := H.out.sz.2.2 c (List.mem_of_getElem? hci)
              have hflc : ∀ k, c.fl = some k → Fl s k := fun k hk => .inr (.inr ⟨c, List.mem_of_getElem? hci, hk⟩)
              have HSZ := hid hsz; have HFLC := hid hflc; have HPO := hid hpo
              clear hg1 hcells hadd hsz hflc hpo hci
              go_upto_region 16 with fail
              have hfa := (Fr.refl (fun _ => False) wr).alloc (.cells #[.string c.nm, .string c.gn, .pointer po] 82)
              have hrow := heap_alloc_new wr (.cells #[.string c.nm, .string c.gn, .pointer po] 82)
              obtain ⟨P, hP⟩ : ∃ P, wr.heap.size = P := ⟨_, rfl⟩
              have hPB : B + 5 ≤ P := by have h1 := HI.out.kp.lt; omega
              rw [hP] at hrow ⊢
              have hcvP : ∀ k, cv.ownBlock = some k → ¬ k = P := fun k hk e => by have := (HI.out.ch.lt k hk).2; omega
              have HCVP := hid hcvP
              clear hcvP
              have HROW := hid hrow; have HFA := hid hfa; have HI1 := hid (HI.out.go hfa); have HPB := hid hPB
              clear hfa hrow d0 d1 d2 hP hPB HI
              generalize wr.alloc (.cells #[.string c.nm, .string c.gn, .pointer po] 82) = W at *
              have hcl := cl_ci HI1.out H.out c.fl po HPO.out HFLC.out
              have HCL := hid hcl
              have k2 : W.cell? ⟨P, 2, none⟩ = some (.pointer po) := by rw [cell_of_row _ _ _ _ _ _ HROW.out]; rfl
              clear hcl
              go_wp2_with fail
              refine HCL.out.mono ?_
              rintro e W2 ⟨po', M', rfl, hI2, hf2, o', ho', hfl'⟩
              have hrow2 := hf2.heap HROW.out (show ¬ (P = B) by have := HPB.out; omega)
              have fz2 : W2.frozen? ⟨P, 2, none⟩ = false := frozen_of_row _ _ _ _ _ hrow2
              have k2' : W2.cell? ⟨P, 2, none⟩ = some (.pointer po) := by rw [cell_of_row _ _ _ _ _ _ hrow2]; rfl
              have HI2 := hid hI2; have HROW2 := hid hrow2; have HO' := hid ho'; have HFL' := hid hfl'
              clear hI2 hf2 hrow2 ho' hfl' k2 HCL HI1 HROW
              go_upto_region 17 with fail
              have hrow3 := setCell_row 2 (.pointer po') HROW2.out
              simp only [List.setIfInBounds_toArray, List.set_cons_zero, List.set_cons_succ] at hrow3
              have hf3 := (Fr.refl (fun k => k = P) W2).setCell (p := ⟨P, 2, none⟩) (.inl rfl) (.pointer po')
              have hI3 := HI2.out.at2 hf3 HPB.out (fun cs t fz e => by
                rw [HROW2.out] at e
                simp only [Option.some.injEq, Obj.cells.injEq] at e
                exact e.2.1.symm) HCVP.out
              clear fz2 k2' hf3
              generalize W2.setCell ⟨P, 2, none⟩ (.pointer po') = W3 at *
              obtain ⟨xa, xc, rfl, -⟩ := own_len hI3.ch
              have x3 : W3.cell? ⟨B + 2, 3, none⟩ = some (.slice xa C.length xc) := by rw [cell_of_row _ _ _ _ _ _ hI3.hx]; rfl
              have k0 : W3.cell? ⟨P, 0, none⟩ = some (.string c.nm) := by rw [cell_of_row _ _ _ _ _ _ hrow3]; rfl
              have k1 : W3.cell? ⟨P, 1, none⟩ = some (.string c.gn) := by rw [cell_of_row _ _ _ _ _ _ hrow3]; rfl
              have k2 : W3.cell? ⟨P, 2, none⟩ = some (.pointer po') := by rw [cell_of_row _ _ _ _ _ _ hrow3]; rfl
              have hfa := (Fr.refl (fun _ => False) W3).alloc (.cells #[.string c.nm, .string c.gn, .pointer po'] 82)
              have hI4 := hI3.go hfa
              have hcn2 := cells_newR W3 #[.string c.nm, .string c.gn, .pointer po'] 82 (0, 0)
              have hone : ∀ y ∈ [Value.string c.nm, .string c.gn, .pointer po'], y.oneCell' = true := by
                intro y hy
                simp only [List.mem_cons, List.not_mem_nil, or_false] at hy
                rcases hy with rfl | rfl | rfl <;> rfl
              have hba : B ≤ (W3.alloc (.cells #[.string c.nm, .string c.gn, .pointer po'] 82)).heap.size := by have h1 := hI4.fr.size; have h2 := hI4.hB; omega
              have HI4 := hid hI4; have HCN2 := hid hcn2; have HONE := hid hone; have HBA := hid hba
              clear hrow3 hI3 hfa hI4 hcn2 hone hba HROW2 HI2 HCVP
              go_wp2_with (at_builtin; go_must (refine wpList_appendR rfl (.tmp 69) (.tmp 71) 60 rfl 82 (.agg #[.string ⟨#[]⟩, .string ⟨#[]⟩, .pointer none]) 3 40 Tryz.underlying60 Tryz.info_change rfl (by decide) (.slice xa C.length xc) rfl B C.length (chV C) HI4.out.ch W3.heap.size 1 [.string c.nm, .string c.gn, .pointer po'] rfl rfl HCN2.out HONE.out (by have := HN.out; have := HCN.out; have := HC.out; have := HCL0.out; omega) (by decide) HBA.out ?_))
              intro gq cap w4 ho4 hf4 hg4
              have hx4 := hf4.heap HI4.out.hx (fun e => own_ne_cells HI4.out.ch HI4.out.hx (by decide) _ e.symm rfl)
              have f3 : w4.frozen? ⟨B + 2, 3, none⟩ = false := frozen_of_row _ _ _ _ _ hx4
              have c3' : w4.cell? ⟨B + 2, 3, none⟩ = some (.slice xa C.length xc) := by rw [cell_of_row _ _ _ _ _ _ hx4]; rfl
              have ho5 : w4.ownsRow B 82 3 (.slice (some ⟨gq, 0, none⟩) (C.length + 1) cap) (C ++ [Chg.mk c.nm c.gn o']).length (chV (C ++ [Chg.mk c.nm c.gn o'])) := by
                have e : chV (C ++ [Chg.mk c.nm c.gn o']) = chV C ++ [.string c.nm, .string c.gn, .pointer po'] := by rw [chV_snoc, HO'.out]
                rw [e, List.length_append]
                exact ho4
              have hI5 := HI4.out.push (c := c) hf4 ho5 rfl HFL'.out HSZ.out
              have HI5 := hid hI5
              have hw1 : IntKind.i64.wrap ((i : Int) + 1) = (i : Int) + 1 := IntWalk.i64_in _ (by have := HCN.out; have := HN.out; have := HC.out; omega)
              clear hx4 ho5 hI5 ho4 hf4 hg4 HI4 x3 k0 k1 k2
              go_wp2_with fail
              go_roundw
              case rel => exact ⟨i + 1, _, C ++ [Chg.mk c.nm c.gn o'], M', by omega, by go_num, by simp [HCL0.out], HI5⟩
              case measure => simp [intOf]; omega
            · have hltI : ¬ (i : Int) < (n : Int) := by omega
              go_wp2_with fail
              go_ret
              exact ⟨by rw [HB.out]; rfl, ⟨cv, N, K, C, M, by rw [HB.out]; exact HI.out.done H.out ⟨HLN.out, HLK.out, by have h1 := HN.out; have h2 := HCL0.out; omega⟩⟩, HI.out.fr⟩
        · have hI2 := HI.out.at hf2 (by have := HRRK.out; omega) (fun cs t fz e => by
            obtain ⟨m, since, seen, c, e2⟩ := HR.out.iter
            rw [e2] at e; cases e)
          have hdl := dl_lt hfL
          have hsz := H.out.sz.2.1 _ hfM
          dsimp only at hsz
          have hFl : Fl s f := (.inr (.inl ⟨nm, hfM⟩))
          have HI2 := hid hI2; have HR2 := hid hra2; have HDL := hid hdl; have HSZ := hid hsz; have HFL := hid hFl; have HLT2 := hid hlt2; have HFM := hid hfM
          clear hI2 hra2 hdl hsz hFl hlt2 hfL hfM hf2 hs2
          go_upto_region 12 with fail
          clear hrun hen
          refine wp_region_ord [(0, 0), (1, 0), (2, 0), (3, 0), (4, 0), (5, 1), (6, 1)] (fun w' => Fr (fun k => k = B) w2 w') (by kernel_rfl) (by kernel_rfl) (by kernel_rfl) rfl (fun _ _ d _ _ h => by cases d <;> exact h) (Fr.refl _ _).drew ?_
          have hxc : w2.cell? ⟨B + 2, 2, none⟩ = some (.map (some (B + 4))) := by rw [cell_of_row _ _ _ _ _ _ HI2.out.hx]; rfl
          have HXC := hid hxc
          clear hxc
          (refine wpO_take ?_ rfl (by kernel_rfl) ?_ ?_; rotate_left; (· intro w' hS; go_simp; try with_reducible rfl); try simp only [Act.put, List.setIfInBounds_toArray, List.set_cons_zero, List.set_cons_succ])
          (refine wpO_take ?_ rfl (by kernel_rfl) ?_ ?_; rotate_left; (· intro w' hS; have d1 := hS.cell HXC.out (show ¬ (B + 2 = B) by omega); go_simp; try with_reducible rfl); try simp only [Act.put, List.setIfInBounds_toArray, List.set_cons_zero, List.set_cons_succ])
          iterate 3 (refine wpO_take ?_ rfl (by kernel_rfl) ?_ ?_; rotate_left; (· intro w' hS; go_simp; try with_reducible rfl); try simp only [Act.put, List.setIfInBounds_toArray, List.set_cons_zero, List.set_cons_succ])
          have HWd := hid (Fr.refl (fun _ => False) w2).drew
          have hId := HI2.out.go HWd.out
          have hcl := cl_any hId.own hId.pm (((H.out.fl f HFL.out).frame hId.fr not_false fun _ _ => not_false)) (H.out.bd f HFL.out).1
          unfold fP at hcl
          have HID := hid hId; have HCL := hid hcl
          clear hId hcl
          generalize w2.drew = Wd at *
          refine wpO_run rfl (by kernel_rfl) (fun K hK => ?_); go_simp
          refine HCL.out.mono ?_
          rintro e w3 ⟨g, M', rfl, hpm, hf3, hcs⟩
          refine hK _ _ (fun _ => (HWd.out.mono fun _ _ h => h.elim).trans' hf3) ?_
          clear hK K
          try simp only [Act.put, List.setIfInBounds_toArray, List.set_cons_zero, List.set_cons_succ]
          obtain ⟨hI3, hmem⟩ := HID.out.call HFL.out hpm hf3 hcs
          obtain ⟨w4, hrun4, hst, hf4, hs4⟩ := hI3.kp.store (s := nm) (by have := HSZ.out; unfold maxLen; omega) g (by have := HLE.out; have := HCN.out; have := HC.out; unfold maxLen; omega)
          have hI4 := hI3.storeK hmem HSZ.out hst hf4
          have hbn : s.bk < B := by have := H.out.kept.lt; have := HB.out; omega
          have hr4 : RangeAt w4 s.bk rk s.kept (dl L nm) := ((HR2.out.frame HWd.out not_false not_false).frame hf3 (show ¬ (s.bk = B) by omega) (show ¬ (rk = B) by have := HRRK.out; omega)).frame hf4 (show ¬ (s.bk = B + 4) by omega) (show ¬ (rk = B + 4) by have := HRRK.out; omega)
          have hle4 : w4.rangeLeft s.bk rk < wr.rangeLeft s.bk rk := by
            rw [(((HR2.out.frame HWd.out not_false not_false).frame hf3 (show ¬ (s.bk = B) by omega) (show ¬ (rk = B) by have := HRRK.out; omega))).left_frame hf4 (show ¬ (s.bk = B + 4) by omega) (show ¬ (rk = B + 4) by have := HRRK.out; omega),
              (HR2.out.frame HWd.out not_false not_false).left_frame hf3 (show ¬ (s.bk = B) by omega) (show ¬ (rk = B) by have := HRRK.out; omega), HR2.out.left_frame HWd.out not_false not_false]
            exact HLT2.out
          have HI4 := hid hI4; have HR4 := hid hr4; have HLT4 := hid hle4
          have hpl : (pt K nm g).length ≤ K.length + 1 := by
            unfold pt dl
            rw [List.length_cons]
            have := List.length_filter_le (fun p : ByteArray × Nat => !decide (p.1 = nm)) K
            omega
          have HPL := hid hpl
          clear hI3 hmem hst hf4 hs4 hI4 hbn hr4 hle4 hpm hf3 hcs hpl
          refine wpO_run rfl (by kernel_rfl) (fun K hK => ?_)
          go_simp
          refine hK _ _ (last_skip (by kernel_rfl)) ?_
          clear hK K
          try simp only [Act.put, List.setIfInBounds_toArray, List.set_cons_zero, List.set_cons_succ]
          refine wpO_end ?_
          clear hrun4
          go_wp2_with fail
          go_roundw
          case rel => exact ⟨pt K nm g, M', dl L nm, HR4, HI4, hid (by have := HPL.out; have := HDL.out; have := HLE.out; omega)⟩
          case measure => exact HLT4.out
    · have hI2 := HI.out.at hf2 (by have := HRRN.out; omega) (fun cs t fz e => by
        obtain ⟨m, since, seen, c, e2⟩ := HR.out.iter
        rw [e2] at e; cases e)
      have hdl := dl_lt hfL
      have hsz := H.out.sz.1 _ hfM
      dsimp only at hsz
      have hFl : Fl s f := (.inl ⟨nm, hfM⟩)
      have HI2 := hid hI2; have HR2 := hid hra2; have HDL := hid hdl; have HSZ := hid hsz; have HFL := hid hFl; have HLT2 := hid hlt2; have HFM := hid hfM
      clear hI2 hra2 hdl hsz hFl hlt2 hfL hfM hf2 hs2
      go_upto_region 8 with fail
      clear hrun hen
      refine wp_region_ord [(0, 0), (1, 0), (2, 0), (3, 0), (4, 0), (5, 1), (6, 1)] (fun w' => Fr (fun k => k = B) w2 w') (by kernel_rfl) (by kernel_rfl) (by kernel_rfl) rfl (fun _ _ d _ _ h => by cases d <;> exact h) (Fr.refl _ _).drew ?_
      have hxc : w2.cell? ⟨B + 2, 1, none⟩ = some (.map (some (B + 3))) := by rw [cell_of_row _ _ _ _ _ _ HI2.out.hx]; rfl
      have HXC := hid hxc
      clear hxc
      (refine wpO_take ?_ rfl (by kernel_rfl) ?_ ?_; rotate_left; (· intro w' hS; go_simp; try with_reducible rfl); try simp only [Act.put, List.setIfInBounds_toArray, List.set_cons_zero, List.set_cons_succ])
      (refine wpO_take ?_ rfl (by kernel_rfl) ?_ ?_; rotate_left; (· intro w' hS; have d1 := hS.cell HXC.out (show ¬ (B + 2 = B) by omega); go_simp; try with_reducible rfl); try simp only [Act.put, List.setIfInBounds_toArray, List.set_cons_zero, List.set_cons_succ])
      iterate 3 (refine wpO_take ?_ rfl (by kernel_rfl) ?_ ?_; rotate_left; (· intro w' hS; go_simp; try with_reducible rfl); try simp only [Act.put, List.setIfInBounds_toArray, List.set_cons_zero, List.set_cons_succ])
      have HWd := hid (Fr.refl (fun _ => False) w2).drew
      have hId := HI2.out.go HWd.out
      have hcl := cl_any hId.own hId.pm (((H.out.fl f HFL.out).frame hId.fr not_false fun _ _ => not_false)) (H.out.bd f HFL.out).1
      unfold fP at hcl
      have HID := hid hId; have HCL := hid hcl
      clear hId hcl
      generalize w2.drew = Wd at *
      refine wpO_run rfl (by kernel_rfl) (fun K hK => ?_); go_simp
      refine HCL.out.mono ?_
      rintro e w3 ⟨g, M', rfl, hpm, hf3, hcs⟩
      refine hK _ _ (fun _ => (HWd.out.mono fun _ _ h => h.elim).trans' hf3) ?_
      clear hK K
      try simp only [Act.put, List.setIfInBounds_toArray, List.set_cons_zero, List.set_cons_succ]
      obtain ⟨hI3, hmem⟩ := HID.out.call HFL.out hpm hf3 hcs
      obtain ⟨w4, hrun4, hst, hf4, hs4⟩ := hI3.nm.store (s := nm) (by have := HSZ.out; unfold maxLen; omega) g (by have := HLE.out; have := HCN.out; have := HC.out; unfold maxLen; omega)
      have hI4 := hI3.storeN hmem HSZ.out hst hf4
      have hbn : s.bn < B := by have := H.out.names.lt; have := HB.out; omega
      have hr4 : RangeAt w4 s.bn rr s.names (dl L nm) := ((HR2.out.frame HWd.out not_false not_false).frame hf3 (show ¬ (s.bn = B) by omega) (show ¬ (rr = B) by have := HRRN.out; omega)).frame hf4 (show ¬ (s.bn = B + 3) by omega) (show ¬ (rr = B + 3) by have := HRRN.out; omega)
      have hle4 : w4.rangeLeft s.bn rr < wr.rangeLeft s.bn rr := by
        rw [(((HR2.out.frame HWd.out not_false not_false).frame hf3 (show ¬ (s.bn = B) by omega) (show ¬ (rr = B) by have := HRRN.out; omega))).left_frame hf4 (show ¬ (s.bn = B + 3) by omega) (show ¬ (rr = B + 3) by have := HRRN.out; omega),
          (HR2.out.frame HWd.out not_false not_false).left_frame hf3 (show ¬ (s.bn = B) by omega) (show ¬ (rr = B) by have := HRRN.out; omega), HR2.out.left_frame HWd.out not_false not_false]
        exact HLT2.out
      have HI4 := hid hI4; have HR4 := hid hr4; have HLT4 := hid hle4
      have hpl : (pt N nm g).length ≤ N.length + 1 := by
        unfold pt dl
        rw [List.length_cons]
        have := List.length_filter_le (fun p : ByteArray × Nat => !decide (p.1 = nm)) N
        omega
      have HPL := hid hpl
      clear hI3 hmem hst hf4 hs4 hI4 hbn hr4 hle4 hpm hf3 hcs hpl
      refine wpO_run rfl (by kernel_rfl) (fun K hK => ?_)
      go_simp
      refine hK _ _ (last_skip (by kernel_rfl)) ?_
      clear hK K
      try simp only [Act.put, List.setIfInBounds_toArray, List.set_cons_zero, List.set_cons_succ]
      refine wpO_end ?_
      clear hrun4
      go_wp2_with fail
      go_roundw
      case rel => exact ⟨pt N nm g, M', dl L nm, HR4, HI4, hid (by have := HPL.out; have := HDL.out; have := HLE.out; omega)⟩
      case measure => exact HLT4.out
end Go.Proofs.YtlhbgobjhddhlaaGreatDoor
