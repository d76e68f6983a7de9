/- The statement LineOut, walked. -/
import Derived.Test.YtlfiljebfnejbaaDoorRefTake
import Derived.Test.YtlfiljebfnejbaaDoorLineFirst
import Derived.Test.YtlfiljebfnejbaaDoorRk
namespace Go.Proofs.YtlfiljebfnejbaaDoor
open Go.RowKit

/-- Something that a queue of lines is told. -/
abbrev DoE := Int × Int × ByteArray
def doV (d : DoE) : List Value := [.int .i64 d.1, .int .i64 d.2.1, .string d.2.2]

theorem dropTo_facts (M : Nat) : ∀ (A : List (List UInt8)) (k : Nat), usedB (dropTo M A k).1 ≤ M ∧ (dropTo M A k).2 + (dropTo M A k).1.length = k + A.length ∧ (∀ B x, usedB [x] ≤ M → A = B ++ [x] → 1 ≤ (dropTo M A k).1.length)
  | [], k => ⟨by simp [dropTo, usedB], by simp [dropTo], fun B x _ e => by simp at e⟩
  | y :: r, k => by
    obtain ⟨h1, h2, h3⟩ := dropTo_facts M r (k + 1)
    unfold dropTo
    by_cases h : M < usedB (y :: r)
    · rw [if_pos h]
      refine ⟨h1, by simp; omega, fun B x hx e => ?_⟩
      cases B with
      | nil =>
        simp only [List.nil_append, List.cons.injEq] at e
        obtain ⟨rfl, rfl⟩ := e
        omega
      | cons z B =>
        simp only [List.cons_append, List.cons.injEq] at e
        exact h3 B x hx e.2
    · rw [if_neg h]
      exact ⟨by simpa using h, by simp, fun _ _ _ _ => by simp⟩

theorem otake_all (base B most lost lo l2 m : Nat) (lv : Value) (L : List (List UInt8)) (n : Int) (w : World) (hO : OutAt base w B most (usedB L : Nat) lost lv L) (hm2 : most ≤ 1048576) (hu : usedB L ≤ most) (hlo : lost < 100) (hn2 : n ≤ 9223372036854775807) (hb : base ≤ w.heap.size)
    (hm : (m : Int) = max (min n L.length) 0) (hcs : (n < 1 ∧ lo = 0 ∧ l2 = lost) ∨ (1 ≤ n ∧ lo = lost ∧ l2 = 0)) :
    Calls Tryd.prog 12 #[.pointer (some ⟨B, 0, none⟩), .int .i64 n] w fun e w' => ∃ ov lv', e = .returned ov ∧ Ss (fun k => w.heap.size ≤ k) w' ov (txt (takeB lo m L)) ∧ OutAt base w' B most (usedB (L.drop m) : Nat) (l2 : Nat) lv' (L.drop m) ∧ Fr (fun k => k = B) w w' := by
  rcases hcs with ⟨h1, rfl, rfl⟩ | ⟨h1, rfl, rfl⟩
  · obtain rfl : m = 0 := by omega
    refine (take_no (lv := lv) (L := L) (w := w) (B := B) (base := base) (most := most) (used := (usedB L : Nat)) (lost := l2) n h1).mono ?_
    rintro e w' ⟨rfl, rfl⟩
    refine ⟨_, lv, rfl, ⟨none, 0, by simp [takeB, txt], by simp [takeB, txt], Nat.zero_le _, fun k hk => by simp [takeB, txt] at hk⟩, by rw [List.drop_zero]; exact hO, Fr.refl _ _⟩
  · obtain ⟨n', rfl⟩ : ∃ n' : Nat, n = n' := ⟨n.toNat, by omega⟩
    refine (take_any base B most lo lv L n' w hO hm2 hu hlo (by omega) (by omega) hb).mono ?_
    rintro e w' ⟨ov, lv', rfl, h2, h3, h4, -, -, -⟩
    have hmm : m = min n' L.length := by omega
    have htk : L.take n' = L.take m := by
      rw [hmm]; rcases Nat.le_total n' L.length with h | h; rw [Nat.min_eq_left h]; rw [Nat.min_eq_right h, List.take_length, List.take_of_length_le h]
    have hdm : L.drop n' = L.drop m := by
      rw [hmm]; rcases Nat.le_total n' L.length with h | h; rw [Nat.min_eq_left h]; rw [Nat.min_eq_right h, List.drop_length, List.drop_of_length_le h]
    have hT : takeB lo n' L = takeB lo m L := by unfold takeB; rw [htk]
    rw [hT] at h2
    rw [hdm] at h3
    refine ⟨ov, lv', rfl, ?_, h3, h4⟩
    have h5 := Ss.own (l := txt (takeB lo m L)) (by simpa [txt] using h2)
    exact h5.mono fun k _ hk => (h2.lt k hk).1

set_option maxRecDepth 100000 in
set_option maxHeartbeats 6400000 in
theorem lineOut_any (mi : Int) (v : Value) (l : List DoE) (w : World) (hB : Rk 3 doV (fun _ => True) w v l) (hG : ∀ x ∈ l, -9223372036854775808 ≤ x.2.1 ∧ x.2.1 ≤ 9223372036854775807) :
    Calls Tryd.prog 4 #[.int .i64 mi, v] w fun e w' => e = .returned (.bool true) ∧ Fr (fun _ => False) w w' := by
  obtain ⟨a, c, rfl, hlc, hcm, hn, hk⟩ := hB
  have HK := hid hk; have HG := hid hG
  clear hk hlc hcm hn hG
  go_enter Tryd.func4, Tryd.ntmps4
  go_wp2_with fail
  refine (first_any _).mono ?_
  rintro e w1 ⟨rfl, hf⟩
  have HF := hid hf
  clear hf
  by_cases h60 : 60 < l.length
  · have h' : decide ((60 : Int) < l.length) = true := by simp; omega
    go_wp2_with fail
    go_ret
    exact ⟨rfl, HF.out⟩
  · have h' : decide ((60 : Int) < l.length) = false := by simp; omega
    have hlI : (l.length : Int) ≤ 60 := by omega
    go_wp2_with fail
    refine (newOut_any _ _).mono ?_
    rintro e w3 ⟨rfl, hout, hf3⟩
    have hso := heap_lt hout.heap
    have hs1 := HF.out.size
    have HF3 := hid (HF.out.trans' hf3); have HOUT := hid hout
    generalize w1.heap.size = Bo at *
    clear hout hf3 HF h' h60
    go_wp2_with fail
    refine (lbound_any _ _ _).mono ?_
    rintro e w4 ⟨rfl, rfl⟩
    obtain ⟨M, hM, hM1, hM2⟩ : ∃ M : Nat, bnd mi 4096 = M ∧ 1 ≤ M ∧ M ≤ 1048576 := ⟨(bnd mi 4096).toNat, by unfold bnd; split <;> (try split) <;> omega, by unfold bnd; split <;> (try split) <;> omega, by unfold bnd; split <;> (try split) <;> omega⟩
    rw [hM] at HOUT ⊢
    have HMM := hid (And.intro hM1 hM2)
    clear hM hM1 hM2
    have hR : RAt Bo (w3.alloc (.cells #[.int .i64 M, .int .i64 0, .slice none 0 0] 39)) w3.heap.size M 0 (.slice none 0 0) [] := ⟨heap_alloc_new _ _, OwnO.nil _ _ _, by omega⟩
    have hO3 := HOUT.out.frame ((Fr.refl (fun _ => False) w3).alloc (.cells #[.int .i64 M, .int .i64 0, .slice none 0 0] 39)) not_false (fun _ _ => not_false)
    have hF4 := HF3.out.alloc (.cells #[.int .i64 M, .int .i64 0, .slice none 0 0] 39)
    obtain ⟨X, hX⟩ : ∃ X, w3.heap.size = X := ⟨_, rfl⟩
    rw [hX] at hR
    have HR := hid hR; have HO3 := hid hO3; have HF4 := hid hF4
    have hBX : Bo < X := by omega
    have HBX := hid hBX; have HS1 := hid hs1
    clear hR hO3 hF4 hBX hso hs1 HOUT HF3
    go_wp2_with fail
    clear hX
    go_loopw [8] (fun i wr => ∃ (k : Nat) (L : List (List UInt8)) (lost : Nat) (lv lx : Value), k ≤ l.length ∧ i = .int .i64 k ∧ Hid (lost + L.length ≤ k ∧ (lost = 0 ∨ 1 ≤ L.length) ∧ usedB L ≤ M) ∧ Hid (OutAt Bo wr Bo M (usedB L : Nat) lost lv L) ∧ Hid (RAt Bo wr X M lost lx L) ∧ Hid (Fr (fun _ => False) w wr) ∧ Hid (∀ q, lv.ownBlock = some q → ¬ lx.ownBlock = some q)) (fun i _ => l.length - (intOf i).toNat)
    case atStart => exact ⟨0, [], 0, _, _, Nat.zero_le _, rfl, hid ⟨Nat.le_refl _, .inl rfl, by simp [usedB]⟩, HO3, HR, HF4, hid (fun q h => by cases h)⟩
    case round =>
      clear HO3 HR HF4
      obtain ⟨k, L, lost, lv, lx, hkl, rfl, HI, HO, HR, HFw, HNE⟩ := hrel
      by_cases hlt : k < l.length
      · obtain ⟨⟨kd, n, s⟩, hx⟩ : ∃ x, l[k]? = some x := ⟨_, List.getElem?_eq_getElem hlt⟩
        obtain ⟨b0, o0, rfl, -, hcc⟩ := HK.out k _ hx
        have c0 := HFw.out.cell (hcc 0 (.int .i64 kd) rfl) not_false
        have c1 := HFw.out.cell (hcc 1 (.int .i64 n) rfl) not_false
        have c2 := HFw.out.cell (hcc 2 (.string s) rfl) not_false
        rw [Nat.add_zero] at c0
        have hn := HG.out _ (List.mem_of_getElem? hx)
        have HN := hid hn
        have hb0 := World.block_lt_of_cell? w _ (hcc 0 (.int .i64 kd) rfl)
        simp only at hb0
        clear hcc hx hn
        by_cases hs : 200 < s.size
        · have hs' : (200 : Int) < s.size := by omega
          go_wp2_with fail
          go_ret
          exact ⟨rfl, HFw.out⟩
        · have hs' : ¬ (200 : Int) < s.size := by omega
          have hbw : Bo ≤ wr.heap.size := by have := heap_lt HO.out.heap; omega
          obtain ⟨hi1, hi2, hi3⟩ := HI.out
          by_cases hkd : kd = 1
          · subst hkd
            go_wp2_with fail
            refine (put_any Bo Bo M lost lv L s wr HO.out HMM.out.1 HMM.out.2 hi3 (by omega) (by omega) hbw).mono ?_
            rintro e w6 ⟨rfl, lv6, hp6, hf6, hlv6⟩
            have hR6 := HR.out.frame hf6 (fun e => by
              rcases e with e | e
              · have := HBX.out; omega
              · exact HO.out.own.ne_cells HR.out.heap (by decide) X e.symm rfl) (fun q hq e => by
              rcases e with e | e
              · subst e; exact HR.out.own.ne_cells HO.out.heap (by decide) _ hq rfl
              · exact HNE.out q e.symm hq)
            have hf6' : Fr (fun _ => False) w w6 := HFw.out.trans hf6 (fun _ _ h => h) (fun q hq e => by
              have h1 := HS1.out
              rcases e with e | e
              · omega
              · have := (HO.out.own.lt q e.symm).1; omega)
            have c2' := (hf6.cell c2 (fun e => by
              have h1 := HS1.out
              rcases e with e | e
              · simp only at e; omega
              · have := (HO.out.own.lt _ e.symm).1; simp only at this; omega))
            have hb6 : Bo ≤ w6.heap.size := by have := hf6.size; omega
            have HP6 := hid hp6; have HR6 := hid hR6; have HF6 := hid hf6'
            clear hp6 hR6 hf6' hf6 c0 c1 c2
            go_wp2_with fail
            refine (rput_any Bo X M lost lx L s w6 HR6.out HMM.out.1 HMM.out.2 hi3 (by omega) (by omega) hb6).mono ?_
            rintro e w7 ⟨rfl, lx7, hr7, hf7, hlx7⟩
            have hO7 := HP6.out.frame hf7 (fun e => by have := HBX.out; omega) (fun q hq e => by subst e; exact HP6.out.own.ne_cells HR6.out.heap (by decide) _ hq rfl)
            obtain ⟨g1, g2, g3⟩ := dropTo_facts M (L ++ [clean (M - 1) s.data.toList]) lost
            have g3 := g3 L _ (by have := clean_len (M - 1) s.data.toList; have := HMM.out.1; simp [usedB]; omega) rfl
            have hF7 : Fr (fun _ => False) w w7 := HF6.out.trans hf7 (fun _ _ h => h) (fun q hq e => by have := HBX.out; have := HS1.out; omega)
            have hne7 : ∀ q, lv6.ownBlock = some q → ¬ lx7.ownBlock = some q := fun q hq e => by
              have := (HP6.out.own.lt q hq).2
              have := hlx7 q e
              omega
            rw [List.length_append, List.length_singleton] at g2
            obtain ⟨L7, hL7⟩ : ∃ L7, (dropTo M (L ++ [clean (M - 1) s.data.toList]) lost).1 = L7 := ⟨_, rfl⟩
            obtain ⟨lo7, hlo7⟩ : ∃ lo7, (dropTo M (L ++ [clean (M - 1) s.data.toList]) lost).2 = lo7 := ⟨_, rfl⟩
            rw [hL7] at g1 g2 g3 hO7 hr7
            rw [hlo7] at g2 hO7 hr7
            have HO7 : Hid (OutAt Bo w7 Bo M (usedB L7 : Nat) (lo7 : Nat) lv6 L7) := hid hO7
            have HR7 : Hid (RAt Bo w7 X M (lo7 : Nat) lx7 L7) := hid hr7
            have HF7 := hid hF7; have HNE7 := hid hne7
            have HI7 : Hid (lo7 + L7.length ≤ k + 1 ∧ (lo7 = 0 ∨ 1 ≤ L7.length) ∧ usedB L7 ≤ M) := hid ⟨by omega, .inr g3, g1⟩
            obtain ⟨lv7, rfl⟩ : ∃ lv7, lv7 = lv6 := ⟨_, rfl⟩
            clear hO7 hr7 hF7 hne7 hf7 hlx7 hL7 hlo7 g1 g2 g3 hlv6 hi1 hi2 hi3 HI HO HR
            go_wp2_with fail
            obtain ⟨hI7, hI8, hI9⟩ := HI7.out
            have hu9 : (usedB L7 : Int) ≤ 2097152 := by have := HMM.out; omega
            have hle9 : ¬ (M : Int) < (usedB L7 : Nat) := by omega
            have hcu1 : ∀ w', Fr (fun _ => False) w7 w' → Calls Tryd.prog 18 #[.pointer (some ⟨Bo, 0, none⟩)] w' fun e w'' => e = .returned (.int .i64 (usedB L7 : Nat)) ∧ Fr (fun _ => False) w7 w'' := fun w' hw => (used_any (HO7.out.frame hw not_false (fun _ _ => not_false))).mono fun _ _ h => ⟨h.1, h.2 ▸ hw⟩
            have hcu2 : ∀ w', Fr (fun _ => False) w7 w' → Calls Tryd.prog 19 #[.pointer (some ⟨X, 0, none⟩)] w' fun e w'' => e = .returned (.int .i64 (usedB L7 : Nat)) ∧ Fr (fun _ => False) w7 w'' := fun w' hw => (rused_any Bo X M _ _ L7 w' (HR7.out.frame hw not_false (fun _ _ => not_false)) (by omega)).mono fun _ _ h => ⟨h.1, h.2 ▸ hw⟩
            have hcu3 : ∀ w', Fr (fun _ => False) w7 w' → Calls Tryd.prog 20 #[.pointer (some ⟨Bo, 0, none⟩)] w' fun e w'' => e = .returned (.int .i64 (lo7 : Nat)) ∧ Fr (fun _ => False) w7 w'' := fun w' hw => (lost_any (HO7.out.frame hw not_false (fun _ _ => not_false))).mono fun _ _ h => ⟨h.1, h.2 ▸ hw⟩
            have HC1 := hid hcu1; have HC2 := hid hcu2; have HC3 := hid hcu3
            obtain ⟨x0, x1, -, -⟩ := HR7.out.cells
            clear hcu1 hcu2 hcu3 hI7 hI8 hI9
            obtain ⟨U7, hU7⟩ : ∃ U7, usedB L7 = U7 := ⟨_, rfl⟩
            rw [hU7] at hu9 hle9 HO7 HC1 HC2
            have HUU := hid hU7.symm
            clear hU7
            go_upto_region 20 with fail
            refine wp_region_cls (fun w' => Fr (fun _ => False) w7 w') (by kernel_rfl) (by kernel_rfl) (Fr.refl _ _).drew ?_
            (refine q_take ?_ (by kernel_rfl) ?_ ?_; rotate_left; (· intro w' hS; have hc0 := Fr.cell hS x0 not_false; have hc1 := Fr.cell hS x1 not_false; go_simp; try with_reducible rfl); (try simp only [Act.put, List.setIfInBounds_toArray, List.set_cons_zero, List.set_cons_succ]))
            (refine q_call ?_ ?_ (by kernel_rfl) ?_ ?_; rotate_left 2; (· intro w' hS; go_simp; first | with_reducible rfl | (constructor <;> with_reducible rfl)); (refine ⟨_, fun w' hw => HC1.out w' hw, ?_⟩); (try simp only [Act.put, List.setIfInBounds_toArray, List.set_cons_zero, List.set_cons_succ]))
            (refine q_take ?_ (by kernel_rfl) ?_ ?_; rotate_left; (· intro w' hS; have hc0 := Fr.cell hS x0 not_false; have hc1 := Fr.cell hS x1 not_false; go_simp; try with_reducible rfl); (try simp only [Act.put, List.setIfInBounds_toArray, List.set_cons_zero, List.set_cons_succ]))
            (refine q_call ?_ ?_ (by kernel_rfl) ?_ ?_; rotate_left 2; (· intro w' hS; go_simp; first | with_reducible rfl | (constructor <;> with_reducible rfl)); (refine ⟨_, fun w' hw => HC2.out w' hw, ?_⟩); (try simp only [Act.put, List.setIfInBounds_toArray, List.set_cons_zero, List.set_cons_succ]))
            (refine q_take ?_ (by kernel_rfl) ?_ ?_; rotate_left; (· intro w' hS; have hc0 := Fr.cell hS x0 not_false; have hc1 := Fr.cell hS x1 not_false; go_simp; try with_reducible rfl); (try simp only [Act.put, List.setIfInBounds_toArray, List.set_cons_zero, List.set_cons_succ]))
            (refine q_take ?_ (by kernel_rfl) ?_ ?_; rotate_left; (· intro w' hS; have hc0 := Fr.cell hS x0 not_false; have hc1 := Fr.cell hS x1 not_false; go_simp; try with_reducible rfl); (try simp only [Act.put, List.setIfInBounds_toArray, List.set_cons_zero, List.set_cons_succ]))
            (refine q_take ?_ (by kernel_rfl) ?_ ?_; rotate_left; (· intro w' hS; have hc0 := Fr.cell hS x0 not_false; have hc1 := Fr.cell hS x1 not_false; go_simp; try with_reducible rfl); (try simp only [Act.put, List.setIfInBounds_toArray, List.set_cons_zero, List.set_cons_succ]))
            (refine q_call ?_ ?_ (by kernel_rfl) ?_ ?_; rotate_left 2; (· intro w' hS; go_simp; first | with_reducible rfl | (constructor <;> with_reducible rfl)); (refine ⟨_, fun w' hw => HC3.out w' hw, ?_⟩); (try simp only [Act.put, List.setIfInBounds_toArray, List.set_cons_zero, List.set_cons_succ]))
            iterate 8 (refine q_take ?_ (by kernel_rfl) ?_ ?_; rotate_left; (· intro w' hS; have hc0 := Fr.cell hS x0 not_false; have hc1 := Fr.cell hS x1 not_false; go_simp; try with_reducible rfl); (try simp only [Act.put, List.setIfInBounds_toArray, List.set_cons_zero, List.set_cons_succ]))
            (refine q_call ?_ ?_ (by kernel_rfl) ?_ ?_; rotate_left 2; (· intro w' hS; go_simp; first | with_reducible rfl | (constructor <;> with_reducible rfl)); (refine ⟨_, fun w' hw => HC1.out w' hw, ?_⟩); (try simp only [Act.put, List.setIfInBounds_toArray, List.set_cons_zero, List.set_cons_succ]))
            iterate 6 (refine q_take ?_ (by kernel_rfl) ?_ ?_; rotate_left; (· intro w' hS; have hc0 := Fr.cell hS x0 not_false; have hc1 := Fr.cell hS x1 not_false; go_simp; try with_reducible rfl); (try simp only [Act.put, List.setIfInBounds_toArray, List.set_cons_zero, List.set_cons_succ]))
            refine q_end (fun W9 hw9 => ?_)
            have HO9 := hid (HO7.out.frame hw9 not_false (fun _ _ => not_false))
            have HR9 := hid (HR7.out.frame hw9 not_false (fun _ _ => not_false))
            have HF9 := hid (HF7.out.trans' hw9)
            clear hw9 x0 x1
            go_wp2_with fail
            go_roundw
            case rel => exact ⟨k + 1, L7, lo7, lv7, lx7, by omega, by go_num, HI7, by rw [← HUU.out]; exact HO9, HR9, HF9, HNE7⟩
            case measure => simp [intOf]; omega
          · have hkd' : (kd == 1) = false := by rw [beq_eq_false_iff_ne]; exact hkd
            obtain ⟨m, hm⟩ : ∃ m : Nat, (m : Int) = max (min n L.length) 0 := ⟨(max (min n L.length) 0).toNat, by omega⟩
            obtain ⟨lo, l2, hcs1, hcs2, hl2⟩ : ∃ lo l2 : Nat, ((n < 1 ∧ lo = 0 ∧ l2 = lost) ∨ (1 ≤ n ∧ lo = lost ∧ l2 = 0)) ∧ ((0 < lo ∧ lo = lost ∧ 1 ≤ m ∧ l2 = 0) ∨ (lo = 0 ∧ l2 = lost ∧ ¬ (0 < lost ∧ 1 ≤ m))) ∧ (l2 + (L.drop m).length ≤ k + 1 ∧ (l2 = 0 ∨ 1 ≤ (L.drop m).length) ∧ usedB (L.drop m) ≤ M) := by
              have hud := usedB_drop L m
              by_cases h1 : n < 1
              · refine ⟨0, lost, .inl ⟨h1, rfl, rfl⟩, .inr ⟨rfl, rfl, by omega⟩, ?_⟩
                have hm0 : m = 0 := by omega
                subst hm0
                rw [List.drop_zero]
                omega
              · refine ⟨lost, 0, .inr ⟨by omega, rfl, rfl⟩, by omega, ?_⟩
                exact ⟨by rw [List.length_drop]; omega, .inl rfl, by omega⟩
            have hl100 : lost < 100 := by omega
            have HMx := hid hm; have HC1 := hid hcs1; have HC2 := hid hcs2; have HI7 := hid hl2; have HL1 := hid hl100; have HI3 := hid hi3; have HBW := hid hbw
            clear hm hcs1 hcs2 hl2 hl100 hi1 hi2 hi3 hbw HI
            have hltI : (k : Int) < l.length := by omega
            go_wp2_with fail
            clear c0 c2
            refine wp_region_ord [(0, 0), (1, 0), (2, 0), (3, 0), (4, 0), (5, 0), (7, 0), (8, 0), (9, 0), (10, 0), (11, 0), (12, 0), (6, 1), (13, 1), (14, 1), (15, 1)] (fun w' => w'.cell? ⟨b0, o0 + k * 3 + 1, none⟩ = some (.int .i64 n)) (by kernel_rfl) (by kernel_rfl) (by kernel_rfl) rfl (fun _ _ d _ _ h => by cases d <;> exact h) c1 ?_
            iterate 12 (refine wpO_take ?_ rfl (by kernel_rfl) ?_ ?_; rotate_left; (· intro w' hS; go_simp; try with_reducible rfl); try simp only [Act.put, List.setIfInBounds_toArray, List.set_cons_zero, List.set_cons_succ])
            have hbd : Bo ≤ wr.drew.heap.size := HBW.out
            refine wpO_run rfl (by kernel_rfl) (fun K hK => ?_)
            go_simp
            refine (otake_all Bo Bo M lost lo l2 m lv L n wr.drew (HO.out.frame (Fr.refl (fun _ => False) wr).drew not_false (fun _ _ => not_false)) HMM.out.2 HI3.out HL1.out HN.out.2 hbd HMx.out HC1.out).mono ?_
            rintro e w6 ⟨ov, lv7, rfl, hss6, hO6, hf6⟩
            have hf6' : Fr (fun k => k = Bo) wr w6 := ((Fr.refl (fun k => k = Bo) wr).drew).trans' hf6
            have c1' := hf6'.cell c1 (fun e => by have h1 := HS1.out; simp only at e; omega)
            have hR6 := HR.out.frame hf6' (fun e => by have := HBX.out; omega) (fun q hq e => by subst e; exact HR.out.own.ne_cells HO.out.heap (by decide) _ hq rfl)
            have hFw6 : Fr (fun _ => False) w w6 := HFw.out.trans hf6' (fun _ _ h => h) (fun q hq e => by have h1 := HS1.out; omega)
            have hb6 : Bo ≤ w6.heap.size := by have := hf6'.size; have := HBW.out; omega
            have hX6 : X < wr.heap.size := heap_lt HR.out.heap
            have HSS6 := hid hss6; have HO6 := hid hO6; have HR6 := hid hR6; have HFW6 := hid hFw6; have HX6 := hid hX6; have HB6 := hid hb6
            refine hK _ _ (fun _ => c1') ?_
            clear hK K hss6 hO6 hf6 hR6 hFw6 hb6 hX6 c1 hf6'
            try simp only [Act.put, List.setIfInBounds_toArray, List.set_cons_zero, List.set_cons_succ]
            refine wpO_run rfl (by kernel_rfl) (fun K hK => ?_)
            go_simp
            refine (rtake_any Bo X M lost lo l2 m lx L n w6 HR6.out HMM.out.2 HI3.out HL1.out HMx.out HC2.out HB6.out).mono ?_
            rintro e w7 ⟨ov2, lx7, rfl, ho7, hr7, hf7, hlx7⟩
            have c1'' := hf7.cell c1' (fun e => by have h1 := HBX.out; have h2 := HS1.out; simp only at e; omega)
            have hss7 := HSS6.out.frame hf7 (fun q hq e => by have h1 := HX6.out; have h2 : wr.heap.size ≤ q := hq; omega)
            have hss8 := Ss.own (l := txt (takeB lo m L)) (by simpa [txt] using ho7)
            have hO7 := HO6.out.frame hf7 (fun e => by have := HBX.out; omega) (fun q hq e => by subst e; exact HO6.out.own.ne_cells HR6.out.heap (by decide) _ hq rfl)
            have hF7 : Fr (fun _ => False) w w7 := HFW6.out.trans hf7 (fun _ _ h => h) (fun q hq e => by have := HBX.out; have := HS1.out; omega)
            have hne7 : ∀ q, lv7.ownBlock = some q → ¬ lx7.ownBlock = some q := fun q hq e => by
              have := (HO6.out.own.lt q hq).2
              have := hlx7 q e
              omega
            have HSS7 := hid hss7; have HSS8 := hid hss8; have HO7' := hid hO7; have HR7' := hid hr7; have HF7' := hid hF7; have HNE7 := hid hne7
            refine hK _ _ (fun _ => c1'') ?_
            clear hK K hss7 hss8 hO7 hr7 hF7 hne7 ho7 hf7 hlx7 HO HR HFw HNE HSS6 HO6 HR6 HFW6 HX6 HB6 HBW hbd c1'
            try simp only [Act.put, List.setIfInBounds_toArray, List.set_cons_zero, List.set_cons_succ]
            refine wpO_run rfl (by kernel_rfl) (fun K hK => ?_)
            go_simp
            refine (sameTexts_any _ _ _ _ (txt (takeB lo m L)) (txt (takeB lo m L)) w7 HSS7.out HSS8.out).mono ?_
            rintro e w8 ⟨rfl, nd, rfl⟩
            refine hK _ _ (fun _ => ((Fr.refl (fun _ => False) w7).drewN nd).cell c1'' not_false) ?_
            clear hK K
            try simp only [Act.put, List.setIfInBounds_toArray, List.set_cons_zero, List.set_cons_succ]
            have hO7 := HO7'.out.frame ((Fr.refl (fun _ => False) w7).drewN nd) not_false (fun _ _ => not_false)
            have hR7 := HR7'.out.frame ((Fr.refl (fun _ => False) w7).drewN nd) not_false (fun _ _ => not_false)
            have hF7 := HF7'.out.drewN nd
            have HO7 := hid hO7; have HR7 := hid hR7; have HF7 := hid hF7
            simp only [decide_true]
            have c18 := ((Fr.refl (fun _ => False) w7).drewN nd).cell c1'' not_false
            clear hO7 hR7 hF7 HO7' HR7' HF7' HSS7 HSS8 c1''
            generalize w7.drewN nd = w7 at *
            refine wpO_run rfl (by kernel_rfl) (fun K hK => ?_)
            go_simp
            refine hK _ _ (fun _ => c18) ?_
            clear hK K c18
            try simp only [Act.put, List.setIfInBounds_toArray, List.set_cons_zero, List.set_cons_succ]
            refine wpO_end ?_
            obtain ⟨L7, hL7⟩ : ∃ L7, L.drop m = L7 := ⟨_, rfl⟩
            rw [hL7] at HO7 HR7 HI7
            obtain ⟨lo7, rfl⟩ : ∃ lo7, lo7 = l2 := ⟨_, rfl⟩
            clear hL7 HC1 HC2 HI3 HL1 HMx
            go_wp2_with fail
            obtain ⟨hI7, hI8, hI9⟩ := HI7.out
            have hu9 : (usedB L7 : Int) ≤ 2097152 := by have := HMM.out; omega
            have hle9 : ¬ (M : Int) < (usedB L7 : Nat) := by omega
            have hcu1 : ∀ w', Fr (fun _ => False) w7 w' → Calls Tryd.prog 18 #[.pointer (some ⟨Bo, 0, none⟩)] w' fun e w'' => e = .returned (.int .i64 (usedB L7 : Nat)) ∧ Fr (fun _ => False) w7 w'' := fun w' hw => (used_any (HO7.out.frame hw not_false (fun _ _ => not_false))).mono fun _ _ h => ⟨h.1, h.2 ▸ hw⟩
            have hcu2 : ∀ w', Fr (fun _ => False) w7 w' → Calls Tryd.prog 19 #[.pointer (some ⟨X, 0, none⟩)] w' fun e w'' => e = .returned (.int .i64 (usedB L7 : Nat)) ∧ Fr (fun _ => False) w7 w'' := fun w' hw => (rused_any Bo X M _ _ L7 w' (HR7.out.frame hw not_false (fun _ _ => not_false)) (by omega)).mono fun _ _ h => ⟨h.1, h.2 ▸ hw⟩
            have hcu3 : ∀ w', Fr (fun _ => False) w7 w' → Calls Tryd.prog 20 #[.pointer (some ⟨Bo, 0, none⟩)] w' fun e w'' => e = .returned (.int .i64 (lo7 : Nat)) ∧ Fr (fun _ => False) w7 w'' := fun w' hw => (lost_any (HO7.out.frame hw not_false (fun _ _ => not_false))).mono fun _ _ h => ⟨h.1, h.2 ▸ hw⟩
            have HC1 := hid hcu1; have HC2 := hid hcu2; have HC3 := hid hcu3
            obtain ⟨x0, x1, -, -⟩ := HR7.out.cells
            clear hcu1 hcu2 hcu3 hI7 hI8 hI9
            obtain ⟨U7, hU7⟩ : ∃ U7, usedB L7 = U7 := ⟨_, rfl⟩
            rw [hU7] at hu9 hle9 HO7 HC1 HC2
            have HUU := hid hU7.symm
            clear hU7
            go_upto_region 20 with fail
            refine wp_region_cls (fun w' => Fr (fun _ => False) w7 w') (by kernel_rfl) (by kernel_rfl) (Fr.refl _ _).drew ?_
            (refine q_take ?_ (by kernel_rfl) ?_ ?_; rotate_left; (· intro w' hS; have hc0 := Fr.cell hS x0 not_false; have hc1 := Fr.cell hS x1 not_false; go_simp; try with_reducible rfl); (try simp only [Act.put, List.setIfInBounds_toArray, List.set_cons_zero, List.set_cons_succ]))
            (refine q_call ?_ ?_ (by kernel_rfl) ?_ ?_; rotate_left 2; (· intro w' hS; go_simp; first | with_reducible rfl | (constructor <;> with_reducible rfl)); (refine ⟨_, fun w' hw => HC1.out w' hw, ?_⟩); (try simp only [Act.put, List.setIfInBounds_toArray, List.set_cons_zero, List.set_cons_succ]))
            (refine q_take ?_ (by kernel_rfl) ?_ ?_; rotate_left; (· intro w' hS; have hc0 := Fr.cell hS x0 not_false; have hc1 := Fr.cell hS x1 not_false; go_simp; try with_reducible rfl); (try simp only [Act.put, List.setIfInBounds_toArray, List.set_cons_zero, List.set_cons_succ]))
            (refine q_call ?_ ?_ (by kernel_rfl) ?_ ?_; rotate_left 2; (· intro w' hS; go_simp; first | with_reducible rfl | (constructor <;> with_reducible rfl)); (refine ⟨_, fun w' hw => HC2.out w' hw, ?_⟩); (try simp only [Act.put, List.setIfInBounds_toArray, List.set_cons_zero, List.set_cons_succ]))
            (refine q_take ?_ (by kernel_rfl) ?_ ?_; rotate_left; (· intro w' hS; have hc0 := Fr.cell hS x0 not_false; have hc1 := Fr.cell hS x1 not_false; go_simp; try with_reducible rfl); (try simp only [Act.put, List.setIfInBounds_toArray, List.set_cons_zero, List.set_cons_succ]))
            (refine q_take ?_ (by kernel_rfl) ?_ ?_; rotate_left; (· intro w' hS; have hc0 := Fr.cell hS x0 not_false; have hc1 := Fr.cell hS x1 not_false; go_simp; try with_reducible rfl); (try simp only [Act.put, List.setIfInBounds_toArray, List.set_cons_zero, List.set_cons_succ]))
            (refine q_take ?_ (by kernel_rfl) ?_ ?_; rotate_left; (· intro w' hS; have hc0 := Fr.cell hS x0 not_false; have hc1 := Fr.cell hS x1 not_false; go_simp; try with_reducible rfl); (try simp only [Act.put, List.setIfInBounds_toArray, List.set_cons_zero, List.set_cons_succ]))
            (refine q_call ?_ ?_ (by kernel_rfl) ?_ ?_; rotate_left 2; (· intro w' hS; go_simp; first | with_reducible rfl | (constructor <;> with_reducible rfl)); (refine ⟨_, fun w' hw => HC3.out w' hw, ?_⟩); (try simp only [Act.put, List.setIfInBounds_toArray, List.set_cons_zero, List.set_cons_succ]))
            iterate 8 (refine q_take ?_ (by kernel_rfl) ?_ ?_; rotate_left; (· intro w' hS; have hc0 := Fr.cell hS x0 not_false; have hc1 := Fr.cell hS x1 not_false; go_simp; try with_reducible rfl); (try simp only [Act.put, List.setIfInBounds_toArray, List.set_cons_zero, List.set_cons_succ]))
            (refine q_call ?_ ?_ (by kernel_rfl) ?_ ?_; rotate_left 2; (· intro w' hS; go_simp; first | with_reducible rfl | (constructor <;> with_reducible rfl)); (refine ⟨_, fun w' hw => HC1.out w' hw, ?_⟩); (try simp only [Act.put, List.setIfInBounds_toArray, List.set_cons_zero, List.set_cons_succ]))
            iterate 6 (refine q_take ?_ (by kernel_rfl) ?_ ?_; rotate_left; (· intro w' hS; have hc0 := Fr.cell hS x0 not_false; have hc1 := Fr.cell hS x1 not_false; go_simp; try with_reducible rfl); (try simp only [Act.put, List.setIfInBounds_toArray, List.set_cons_zero, List.set_cons_succ]))
            refine q_end (fun W9 hw9 => ?_)
            have HO9 := hid (HO7.out.frame hw9 not_false (fun _ _ => not_false))
            have HR9 := hid (HR7.out.frame hw9 not_false (fun _ _ => not_false))
            have HF9 := hid (HF7.out.trans' hw9)
            clear hw9 x0 x1
            go_wp2_with fail
            go_roundw
            case rel => exact ⟨k + 1, L7, lo7, lv7, lx7, by omega, by go_num, HI7, by rw [← HUU.out]; exact HO9, HR9, HF9, HNE7⟩
            case measure => simp [intOf]; omega
      · obtain rfl : k = l.length := by omega
        go_wp2_with fail
        go_ret
        exact ⟨rfl, HFw.out⟩
end Go.Proofs.YtlfiljebfnejbaaDoor
