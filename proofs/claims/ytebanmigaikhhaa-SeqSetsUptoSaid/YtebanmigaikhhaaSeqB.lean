/- slices.Grow of nothing, slices.Concat, slices.Clone of values. -/
import Derived.Test.YtebanmigaikhhaaSeqA
import Derived.Lib.AppendZeros
namespace Go.Proofs.Ytebanmigaikhhaa
open Go.RowKit

set_option maxHeartbeats 1600000 in
theorem grow_any (n : Nat) (hn : n ≤ 1099511627776) (w : World) : Calls Try.prog 62 #[.slice none 0 0, .int .i64 n] w fun e w' => ∃ v, e = .returned v ∧ w'.ownsRow w.heap.size 30 4 v 0 [] ∧ Fr (fun _ => False) w w' := by
  obtain ⟨i, hi, hz, hsz, hbt⟩ := info_parts Try.info_val
  by_cases h0 : n = 0
  · subst h0
    clear hi hz hsz hbt
    go_enter Try.func62, Try.ntmps62
    go_wp2_with fail
    go_ret
    exact ⟨_, rfl, World.ownsRow_nil _ _ _ _, Fr.refl _ _⟩
  · have hr := fun ty => Lib.run_append_nil_zeros (P := Try.prog) w 22 3 ty 30 i _ .i64 .i64 Try.underlying22 Try.underlying3 hi hz n (by omega) (by omega) (by omega) (by rw [hbt]; omega)
    clear hi hz hsz hbt
    have hn2 : (0 : Int) < n := by omega
    go_enter Try.func62, Try.ntmps62
    go_wp2_with (at_builtin; refine Lib.wpList_append_run _ rfl _ _ _ _ rfl _ _ rfl rfl _ _ (hr _) ?_)
    go_ret
    have hcap := grownCap_ge w n 0 30
    have hcm := grownCap_le_maxLen w n 0 30 (by unfold maxLen; omega)
    refine ⟨_, rfl, ?_, ((Fr.refl _ _).alloc _).drew⟩
    have := World.ownsRow_made (base := w.heap.size) (e := 30) (size := 4) w (Builtin.zeroCells #[.int .i64 0, .int .i64 0, .string ⟨#[]⟩, .slice none 0 0] n ++ Builtin.zeroCells #[.int .i64 0, .int .i64 0, .string ⟨#[]⟩, .slice none 0 0] (grownCap w n 0 30 - n)) (grownCap w n 0 30) (Nat.le_refl _) hcm (by simp [Builtin.zeroCells]; omega)
    exact this
/-- The pieces' lists, one behind the other. -/
def allP (ps : List (Value × List V)) : List V := (ps.map Prod.snd).flatten
theorem allP_take (ps : List (Value × List V)) (k : Nat) (p : Value × List V) (h : ps[k]? = some p) : allP (ps.take (k + 1)) = allP (ps.take k) ++ p.2 := by
  unfold allP
  rw [List.take_add_one, h]
  simp
theorem allP_le (ps : List (Value × List V)) (k : Nat) : (allP (ps.take k)).length ≤ (allP ps).length := by
  have : allP ps = allP (ps.take k) ++ allP (ps.drop k) := by
    unfold allP
    rw [← List.flatten_append, ← List.map_append, List.take_append_drop]
  rw [this, List.length_append]
  omega

set_option maxRecDepth 100000 in
set_option maxHeartbeats 3200000 in
theorem concat_any (ps : List (Value × List V)) (B c : Nat) (D : Nat → Prop) (w : World) (hps : ∀ (k : Nat) p, ps[k]? = some p → w.cell? ⟨B, k, none⟩ = some p.1 ∧ VL D w p.2 p.1) (hD : ∀ k, D k → k < w.heap.size) (hl : (allP ps).length ≤ 1099511627776) (hn : ps.length ≤ 100) :
    Calls Try.prog 46 #[.slice (some ⟨B, 0, none⟩) ps.length c] w fun e w' => ∃ v us, e = .returned v ∧ w'.ownsRow w.heap.size 30 4 v (allP ps).length us ∧ VC D w' (allP ps) us ∧ Fr (fun _ => False) w w' := by
  have HP := hid hps; have HL := hid hl; have HDD := hid hD
  clear hps hl hD
  go_enter Try.func46, Try.ntmps46
  go_wp2_with fail
  go_loopw [3, 11] (fun s i wr => ∃ k : Nat, k ≤ ps.length ∧ i = .int .i64 k ∧ s = .int .i64 (allP (ps.take k)).length ∧ w = wr) (fun _ i _ => ps.length - (intOf i).toNat)
  case atStart => exact ⟨0, Nat.zero_le _, rfl, rfl, rfl⟩
  case round =>
    obtain ⟨k, hk, rfl, rfl, rfl⟩ := hrel
    have hlk : ((allP (ps.take k)).length : Int) ≤ 1099511627776 := by have := allP_le ps k; have := HL.out; omega
    obtain ⟨S, hS⟩ : ∃ S, (allP (ps.take k)).length = S := ⟨_, rfl⟩
    rw [hS] at hlk ⊢
    by_cases hlt : k < ps.length
    · obtain ⟨p, hp⟩ : ∃ p, ps[k]? = some p := ⟨_, List.getElem?_eq_getElem hlt⟩
      obtain ⟨hc1, hv⟩ := HP.out k p hp
      have hS2 := allP_take ps k p hp
      have hl2 := allP_le ps (k + 1)
      have HS2 := hid hS2; have HL2 := hid hl2; have HSS := hid hS
      obtain ⟨a, c', us, hpv, -⟩ := hv
      rw [hpv] at hc1
      obtain ⟨n, hn2⟩ : ∃ n, p.2.length = n := ⟨_, rfl⟩
      have hlen : S + n ≤ 1099511627776 := by
        have := HL.out
        rw [hS2, List.length_append] at hl2
        omega
      have HN := hid hn2
      rw [hn2] at hc1
      have hlI : (S : Int) + n ≤ 1099511627776 := by omega
      have hlI0 : ¬ (S : Int) + n < 0 := by omega
      clear hS hS2 hl2 hp hpv hn2
      go_wp2_with fail
      go_roundw
      case rel => exact ⟨k + 1, by omega, by go_num, by rw [HS2.out, List.length_append, HSS.out, HN.out]; go_num, trivial⟩
      case measure => simp [intOf]; omega
    · obtain rfl : k = ps.length := by omega
      rw [List.take_length] at hS
      have HSS := hid hS
      clear hS
      go_wp2_with fail
      refine (grow_any S (by have := HL.out; rw [HSS.out] at this; exact this) w).mono ?_
      rintro e w2 ⟨v0, rfl, ho0, hf0⟩
      have HO0 := hid ho0; have HF0 := hid hf0
      clear ho0 hf0 hlk
      go_wp2_with fail
      go_loopw [6, 27] (fun s i w3 => ∃ (k : Nat) (v : Value) (us : List Value), k ≤ ps.length ∧ i = .int .i64 k ∧ s = v ∧ Hid (w3.ownsRow w.heap.size 30 4 v (allP (ps.take k)).length us) ∧ Hid (VC D w3 (allP (ps.take k)) us) ∧ Hid (Fr (fun _ => False) w w3)) (fun _ i _ => ps.length - (intOf i).toNat)
      case atStart => exact ⟨0, v0, [], Nat.zero_le _, rfl, rfl, HO0, hid (VC.nil _ _), HF0⟩
      case round =>
        clear HO0 HF0
        obtain ⟨k, v, us, hk2, rfl, hsv, HO, HC, HF⟩ := hrel
        have hsv2 := hsv.symm
        subst hsv2
        by_cases hlt2 : k < ps.length
        · obtain ⟨p, hp⟩ : ∃ p, ps[k]? = some p := ⟨_, List.getElem?_eq_getElem hlt2⟩
          obtain ⟨hc1, hv⟩ := HP.out k p hp
          have hc2 := HF.out.cell hc1 not_false
          have hv2 := hv.frame HF.out fun _ _ => not_false
          have hS2 := allP_take ps k p hp
          have hl2 := allP_le ps (k + 1)
          rw [hS2, List.length_append] at hl2
          obtain ⟨v', w', us', hr, ho', hc', hf', hn', -⟩ := run_appendVL wr w.heap.size v p.1 _ p.2 us D HO.out HC.out hv2 (fun q hq hd => by
            have h1 := (HO.out.lt q hq).1
            have h2 := HDD.out q hd
            omega) (by have := HL.out; omega) HF.out.size 22
          rw [← hS2] at ho' hc'
          have HO' := hid ho'; have HC' := hid hc'
          have HF' := hid (HF.out.trans hf' (U := fun _ => False) (fun _ _ h => h) (fun q hq e => by have := (HO.out.lt q e.symm).1; omega))
          obtain ⟨a, c', us2, hpv, -⟩ := hv
          rw [hpv] at hc2 hr
          clear hS2 hl2 hp hc1 hpv hv2 ho' hc' hf' hn'
          go_wp2_with (at_builtin; refine Lib.wpList_append_run _ rfl _ _ _ _ rfl _ _ rfl rfl _ _ hr ?_)
          go_roundw
          case rel => exact ⟨k + 1, v', us', by omega, by go_num, rfl, HO', HC', HF'⟩
          case measure => simp [intOf]; omega
        · obtain rfl : k = ps.length := by omega
          go_wp2_with fail
          go_ret
          rw [List.take_length] at HO HC
          exact ⟨_, rfl, us, HO.out, HC.out, HF.out⟩

set_option maxRecDepth 100000 in
set_option maxHeartbeats 1600000 in
theorem clone_any (l : List V) (D : Nat → Prop) (w : World) (v : Value) (h : VL D w l v) (hD : ∀ k, D k → k < w.heap.size) (hl : l.length ≤ 1099511627776) :
    Calls Try.prog 52 #[v] w fun e w' => ∃ v' us, e = .returned v' ∧ w'.ownsRow w.heap.size 30 4 v' l.length us ∧ VC D w' l us ∧ Fr (fun _ => False) w w' := by
  obtain ⟨a, c, us0, rfl, h1, h2, hn, -, -⟩ := id h
  cases a with
  | none =>
    have hc0 := hn rfl
    subst hc0
    have hl0 : l = [] := List.eq_nil_of_length_eq_zero (by omega)
    subst hl0
    have h1 := Lib.run_eql_slice_nil (P := Try.prog)
    clear h hD hl hn
    go_enter Try.func52, Try.ntmps52
    go_wp2_with fail
    go_ret
    exact ⟨_, [], rfl, World.ownsRow_nil _ _ _ _, VC.nil _ _, Fr.refl _ _⟩
  | some ad =>
    have hf := (Fr.refl (fun _ => False) w).alloc (.cells #[] 30)
    have hown := World.ownsRow_made (base := w.heap.size) (e := 30) (size := 4) w #[] 0 (Nat.le_refl _) (by simp [maxLen]) (by simp)
    obtain ⟨v', w4, us', hr, ho4, hc4, hf4, -, -⟩ := run_appendVL (w.alloc (.cells #[] 30)) w.heap.size (.slice (some ⟨w.heap.size, 0, none⟩) 0 0) _ [] l [] D hown (VC.nil _ _) (h.frame hf fun _ _ => not_false) (fun k hk hd => by
      have := hD k hd
      simp [Value.ownBlock] at hk
      omega) (by simpa using hl) hf.size 22
    have hF4 := hf.trans hf4 (U := fun _ => False) (fun _ _ h => h) (fun q hq e => by simp [Value.ownBlock] at e; omega)
    rw [List.nil_append] at ho4 hc4
    have HO4 := hid ho4; have HF4 := hid hF4; have HC4 := hid hc4
    have hnil := Lib.run_eql_slice_nil (P := Try.prog)
    clear h hD hl hn hf hown ho4 hc4 hf4 hF4
    go_enter Try.func52, Try.ntmps52
    go_upto_if 4 with fail
    refine wp_cond_false rfl ?_
    go_step
    go_step
    go_step
    go_step
    refine wp_region_lit ?_
    refine wpList_plain rfl (fun K hK => ?_)
    go_simp
    refine hK _ _ ?_
    clear hK K
    try simp only [Act.put, List.setIfInBounds_toArray, List.set_cons_zero, List.set_cons_succ]
    refine wpList_plain rfl (fun K hK => ?_)
    go_simp
    refine hK _ _ ?_
    clear hK K
    try simp only [Act.put, List.setIfInBounds_toArray, List.set_cons_zero, List.set_cons_succ]
    refine wpList_plain rfl (fun K hK => ?_)
    refine Lib.wp_append_run _ (.tmp 5) (.tmp 6) 22 22 rfl (.slice (some ⟨w.heap.size, 0, none⟩) 0 0) (.slice (some ad) l.length c) rfl rfl v' w4 hr ?_
    refine hK _ _ ?_
    clear hK K
    try simp only [Act.put, List.setIfInBounds_toArray, List.set_cons_zero, List.set_cons_succ]
    go_wp2_with fail
    go_ret
    exact ⟨_, us', rfl, HO4.out, HC4.out, HF4.out⟩
end Go.Proofs.Ytebanmigaikhhaa
