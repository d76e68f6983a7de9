/- The statement FrameRows, walked. -/
import Derived.Test.YtlpbjmgpckhneaaDoorFrameAll
import Derived.Test.YtlpbjmgpckhneaaDoorFrameOB
namespace Go.Proofs.YtlpbjmgpckhneaaDoor
open Go.RowKit

/-- Where the records end, as the statement keeps it. -/
def endsV (ls : List (List UInt8)) (k : Nat) : List Value := (List.range k).map fun i => Value.int .i64 (endB ls (i + 1))
@[simp] theorem endsV_length (ls : List (List UInt8)) (k : Nat) : (endsV ls k).length = k := by simp [endsV]
theorem endsV_succ (ls : List (List UInt8)) (k : Nat) : endsV ls (k + 1) = endsV ls k ++ [.int .i64 (endB ls (k + 1))] := by simp [endsV, List.range_succ]
theorem endsV_get (ls : List (List UInt8)) (k i : Nat) (h : i < k) : (endsV ls k)[i]? = some (.int .i64 (endB ls (i + 1))) := by simp [endsV, h]
theorem Tryd.info_int : (Tryd.prog.info? 3).map (fun i => (i.zero, i.size, i.bytes)) = some (some (.int .i64 0), 1, 8) := by kernel_rfl
theorem want_ex (ls : List (List UInt8)) (K : Nat) : ∀ n, n ≤ ls.length → (endB ls n ≤ K ∧ (n < ls.length → K < endB ls (n + 1))) ∨ (K < endB ls n ∧ ∃ w, w < n ∧ endB ls w ≤ K ∧ K < endB ls (w + 1)) ∨ (endB ls n ≤ K ∧ n < ls.length ∧ endB ls (n + 1) ≤ K)
  | 0, _ => by
    rw [endB_zero]
    by_cases h : 0 < ls.length
    · by_cases h2 : endB ls 1 ≤ K
      · exact .inr (.inr ⟨by omega, h, h2⟩)
      · exact .inl ⟨by omega, fun _ => by simp; omega⟩
    · exact .inl ⟨by omega, fun h' => absurd h' h⟩
  | n + 1, hn => by
    rcases want_ex ls K n (by omega) with ⟨h1, h2⟩ | ⟨h1, w, h2, h3, h4⟩ | ⟨h1, h2, h3⟩
    · exact .inr (.inl ⟨h2 hn, n, by omega, h1, h2 hn⟩)
    · exact .inr (.inl ⟨Nat.lt_of_lt_of_le h1 (endB_mono ls (by omega)), w, by omega, h3, h4⟩)
    · by_cases h : n + 1 < ls.length
      · by_cases h5 : endB ls (n + 1 + 1) ≤ K
        · exact .inr (.inr ⟨h3, h, h5⟩)
        · exact .inl ⟨h3, fun _ => by omega⟩
      · exact .inl ⟨h3, fun h' => absurd h' h⟩
/-- The record where a place lies. -/
theorem want_of (ls : List (List UInt8)) (K : Nat) : ∃ w, w ≤ ls.length ∧ endB ls w ≤ K ∧ (w < ls.length → K < endB ls (w + 1)) := by
  rcases want_ex ls K ls.length (Nat.le_refl _) with ⟨h1, h2⟩ | ⟨h1, w, h2, h3, h4⟩ | ⟨h1, h2, h3⟩
  · exact ⟨_, Nat.le_refl _, h1, h2⟩
  · exact ⟨w, by omega, h3, fun _ => h4⟩
  · omega
theorem errV_eql (pa : Nat → Addr) (m : Nat) (w : World) : (binOp .eql 29 (errV pa m) .nilIface).run Tryd.prog w = .ok (.bool (m == 0)) w := by
  unfold errV
  by_cases h : m = 0
  · subst h
    rfl
  · rw [if_neg h, show (m == 0) = false by rw [beq_eq_false_iff_ne]; exact h]
    rfl
theorem errV_guard (pa : Nat → Addr) (m : Nat) (w : World) (x : Operand) : (eqGuard .eql 29 x (.const .nilIface) (errV pa m) .nilIface).run Tryd.prog w = .ok () w := by
  unfold errV
  by_cases h : m = 0
  · subst h
    cases x <;> rfl
  · rw [if_neg h]
    rfl
theorem xor_by (x : UInt8) (b : Nat) (hb : b < 256) : Go.bits BinOp.xor IntKind.u8 (x.toNat : Int) (b : Int) = ((x ^^^ UInt8.ofNat b).toNat : Int) := by
  rw [u8_xor_nat _ _ x.toNat_lt hb, UInt8.toNat_xor, UInt8.toNat_ofNat', Nat.mod_eq_of_lt hb]
theorem ends_cell {base : Nat} {w : World} {v : Value} {ls : List (List UInt8)} {n : Nat} (h : w.ownsRow base 3 1 v n (endsV ls n)) (hn : 0 < n) : ∃ g cap, v = .slice (some ⟨g, 0, none⟩) n cap ∧ base ≤ g ∧ g < w.heap.size ∧ ∀ j, j < n → w.cell? ⟨g, j, none⟩ = some (.int .i64 (endB ls (j + 1))) := by
  rcases own_heap h with ⟨_, h0, _⟩ | ⟨g, cap, e, hb, hg, hc⟩
  · omega
  · exact ⟨g, cap, e, hb, hg, fun j hj => by rw [hc j (by omega), endsV_get _ _ _ hj]⟩

set_option maxRecDepth 100000 in
set_option maxHeartbeats 1600000 in
theorem frameRows_any (pa : Nat → Addr) (vs : Value) (ls : List (List UInt8)) (cut at_ : Int) (by_ : Nat) (c1 : -9223372036854775808 ≤ cut) (c2 : cut ≤ 9223372036854775807) (a1 : -9223372036854775808 ≤ at_) (a2 : at_ ≤ 9223372036854775807) (hby : by_ < 256)
    (w : World) (hS : Bss (fun _ => True) w vs ls) (hE : Sent17 w pa) :
    Calls Tryd.prog 6 #[vs, .int .i64 cut, .int .i64 at_, .int .u8 by_] w fun e w' => e = .returned (.bool true) ∧ Fr (fun _ => False) w w' := by
  have hS0 := hS
  obtain ⟨sa, sc, rfl, hsc, hsm, hk⟩ := hS
  have hm2 : ls.length ≤ 9223372036854775807 := Nat.le_trans hsc hsm
  have HS := hid hS0; have HE := hid hE; have HK := hid hk; have HC1 := hid c1; have HC2 := hid c2; have HA1 := hid a1; have HA2 := hid a2
  clear hS0 hE hk hsc hsm c1 c2 a1 a2
  by_cases h10 : 10 < ls.length
  · have h10' : decide ((10 : Int) < ls.length) = true := by simp; omega
    go_enter Tryd.func6, Tryd.ntmps6
    go_wp2_with fail
    refine (first_any _).mono ?_
    rintro e w1 ⟨rfl, hf⟩
    go_wp2_with fail
    go_ret
    exact ⟨rfl, hf⟩
  · have h10' : decide ((10 : Int) < ls.length) = false := by simp; omega
    go_enter Tryd.func6, Tryd.ntmps6
    go_wp2_with fail
    refine (first_any _).mono ?_
    rintro e w1 ⟨rfl, hf⟩
    have HF := hid hf
    clear hf
    go_wp2_with fail
    go_loopw [10, 11, 12] (fun ve v i wr => ∃ k : Nat, k ≤ ls.length ∧ i = .int .i64 k ∧ Hid (wr.ownsRow w.heap.size 3 1 ve k (endsV ls k)) ∧ OB w.heap.size wr v (recsB (ls.take k)) ∧ Hid (∀ j, j < k → (ls.getD j []).length ≤ 200) ∧ Fr (fun _ => False) w wr) (fun _ _ i _ => ls.length - (intOf i).toNat)
    case atStart => exact ⟨0, by omega, rfl, hid (World.ownsRow_nil _ _ _ _), World.ownsRow_nil _ _ _ _, hid (fun j hj => by omega), HF.out⟩
    case round =>
      clear HF
      obtain ⟨k, hkl, rfl, HEN, hO, hall, hf⟩ := hrel
      have HO := hid hO; have HF := hid hf
      clear hO hf
      by_cases hlt : k < ls.length
      · obtain ⟨b, o, u, rfl, -, hcw, hu⟩ := HK.out k hlt
        have hcr := HF.out.cell hcw not_false
        have hu2 := hu.frame HF.out (fun _ _ => not_false)
        obtain ⟨ua, uc, rfl, huc, hum, -⟩ := hu
        have hmu : (ls.getD k []).length ≤ 9223372036854775807 := Nat.le_trans huc hum
        have ht := recsB_take ls k hlt
        have hpre := recsB_bound (ls.take k) 200 (fun r hr => by
          obtain ⟨j, hj, rfl⟩ := mem_getD (d := []) hr
          have hj2 : j < k := by simp at hj; omega
          have : (ls.take k).getD j [] = ls.getD j [] := by simp [List.getD, List.getElem?_take, hj2]
          rw [this]
          exact hall.out j hj2)
        have htk : (ls.take k).length ≤ 10 := by simp; omega
        clear huc hum
        have HCW := hid hcw
        clear hcw
        generalize hgr : ls.getD k [] = r at *
        have HGR := hid hgr
        clear hgr
        by_cases h2 : 200 < r.length
        · have h2' : decide ((200 : Int) < r.length) = true := by simp; omega
          have HT := hid ht; have HP := hid hpre
          clear ht hpre
          go_wp2_with fail
          go_ret
          exact ⟨rfl, HF.out⟩
        · have h2' : decide ((200 : Int) < r.length) = false := by simp; omega
          have hrb := recB_len r
          have hq : (recsB (ls.take k) ++ recsB [r]).length ≤ 1073741824 := by rw [recsB_one, List.length_append, hrb]; omega
          have hz : (recsB (ls.take (k + 1))).length = (recsB (ls.take k)).length + r.length + 8 := by rw [ht, List.length_append, hrb]; omega
          have hU := ((Fr.refl (fun _ => False) wr).alloc (.cells #[.slice ua r.length uc] 22))
          have hone := Bss.one (heap_alloc_new wr (.cells #[.slice ua r.length uc] 22)) (hu2.frame hU (fun _ _ => not_false))
          have hOB := OB.bs (World.ownsRow.alloc HO.out (.cells #[.slice ua r.length uc] 22))
          have HT := hid ht; have HP := hid hpre; have HQ := hid hq; have HZ := hid hz; have HRB := hid hrb; have HU := hid hU; have HONE := hid hone; have HOB := hid hOB
          clear ht hpre hq hz hrb hU hone hOB hu2
          go_wp2_with fail
          refine (put_any _ _ _ _ (recsB (ls.take k)) [r] _ HOB.out HONE.out HQ.out).mono ?_
          rintro e w2 ⟨v2, rfl, ho2, hf2⟩
          rw [recsB_one, ← HT.out] at ho2
          obtain ⟨a2, c2, rfl, -⟩ := own_len ho2
          have HO2 := hid (own_base ho2 (by have := HF.out.size; have := HU.out.size; omega : w.heap.size ≤ _)); have HF2 := hid ((HF.out.trans' HU.out).trans' hf2); have HF3 := hid (HU.out.trans' hf2)
          clear ho2 hf2 hcr
          have hown := World.ownsRow.alloc (HF3.out.own HEN.out (fun _ _ => not_false)) (.cells #[.int .i64 (recsB (ls.take (k + 1))).length] 3)
          have hc1 := cell_new1 w2 (.int .i64 (recsB (ls.take (k + 1))).length) 3 (0, 0)
          have hbs : w.heap.size ≤ (w2.alloc (.cells #[.int .i64 (recsB (ls.take (k + 1))).length] 3)).heap.size := by have := HF2.out.size; simp; omega
          have HOW := hid hown; have HCC := hid hc1; have HBS := hid hbs
          clear hown hc1 hbs
          go_wp2_with (at_builtin; go_must (refine wpList_append1 rfl (.tmp 55) (.tmp 58) 33 rfl 3 (.int .i64 0) 8 Tryd.underlying33 Tryd.info_int rfl _ rfl w.heap.size k (endsV ls k) HOW.out w2.heap.size 1 (.int .i64 (recsB (ls.take (k + 1))).length) rfl HCC.out rfl (by omega) (by decide) HBS.out ?_))
          intro g cap w3 ho3 hf3 _
          have hen3 : w3.ownsRow w.heap.size 3 1 (.slice (some ⟨g, 0, none⟩) (k + 1) cap) (k + 1) (endsV ls (k + 1)) := by rw [endsV_succ]; exact ho3
          have hF4 : Fr (fun _ => False) w w3 := (HF2.out.alloc (.cells #[.int .i64 (recsB (ls.take (k + 1))).length] 3)).trans hf3 (fun _ _ h => h) (fun x hx e => by
            have := HOW.out.lt x e.symm
            omega)
          have hO4 : OB w.heap.size w3 (.slice a2 (recsB (ls.take (k + 1))).length c2) (recsB (ls.take (k + 1))) := hf3.own (World.ownsRow.alloc HO2.out _) (fun k hk => own_ne (World.ownsRow.alloc HO2.out _) HOW.out (by decide) k hk)
          have HEN3 := hid hen3; have HF4 := hid hF4; have HO4 := hid hO4
          clear ho3 hf3 hen3 hF4 hO4
          go_wp2_with fail
          go_roundw
          case rel =>
            refine ⟨k + 1, by omega, by go_num, HEN3, HO4.out, hid (fun j hj => ?_), HF4.out⟩
            by_cases hjk : j = k
            · subst hjk; rw [HGR.out]; omega
            · exact hall.out j (by omega)
          case measure => simp [intOf]; omega
      · obtain rfl : k = ls.length := by omega
        rw [List.take_length] at HO
        have hall2 : ∀ r ∈ ls, r.length ≤ 200 := fun r hr => by
          obtain ⟨j, hj, rfl⟩ := mem_getD (d := []) hr
          exact hall.out j hj
        have hbig := recsB_bound ls 200 hall2
        have hls : ∀ r ∈ ls, r.length ≤ 4194304 := fun r hr => by have := hall2 r hr; omega
        have hB2 : (recsB ls).length ≤ 2080 := by omega
        obtain ⟨va, vc, hve, -⟩ := own_len HO.out
        subst hve
        have hvc : (recsB ls).length ≤ vc := by
          rcases HO.out.2 with ⟨e, h0⟩ | ⟨_, _, _, e, _, _, h1, _⟩
          · simp only [Value.slice.injEq] at e; omega
          · simp only [Value.slice.injEq] at e; omega
        have hnl : ls.length = 0 ∨ (0 < ls.length ∧ 0 < (recsB ls).length) := by
          rcases Nat.eq_zero_or_pos ls.length with h | h
          · exact .inl h
          · right
            refine ⟨h, ?_⟩
            have e1 := endB_mono ls (show 1 ≤ ls.length from h)
            have e2 := endB_succ ls 0 h
            rw [endB_all] at e1
            simp only [Nat.zero_add] at e2
            omega
        generalize hbl : recsB ls = bl at *
        have HLS := hid hls; have HBL := hid hbl; have HVC := hid hvc
        clear hall hall2 hbig hls hbl hvc
        go_wp2_with fail
        refine (number_any cut ((bl.length : Int) + 1) wr (by omega) (by omega) HC1.out HC2.out).mono ?_
        rintro e w2 ⟨rfl, rfl⟩
        obtain ⟨K, hK, hKn⟩ : ∃ K : Nat, cut % ((bl.length : Int) + 1) = K ∧ K ≤ bl.length := by
          have g1 := Int.emod_nonneg cut (show ((bl.length : Int) + 1) ≠ 0 by omega)
          have g2 := Int.emod_lt_of_pos cut (show 0 < ((bl.length : Int) + 1) by omega)
          exact ⟨(cut % ((bl.length : Int) + 1)).toNat, by omega, by omega⟩
        rw [hK]
        clear hK
        obtain ⟨wn, hw1, hw2, hw3⟩ := want_of ls K
        obtain ⟨tl, code, hcut, hae, hck, hcd⟩ := cut_end ls K wn HLS.out (by rw [HBL.out]; exact hKn) hw1 hw2 hw3
        rw [HBL.out] at hcut
        have hup := Bs.upto (OB.bs HO.out) K hKn
        have hupl : (bl.take K).length ≤ 1073741824 := by simp; omega
        have hlw : ∀ r ∈ ls.take wn, r.length ≤ 4194304 := fun r hr => HLS.out r (List.mem_of_mem_take hr)
        have hKvc : K ≤ vc := by have := HVC.out; omega
        have HW3 := hid hw3; have HCUT := hid hcut; have HAE := hid hae; have HUP := hid hup; have HUPL := hid hupl; have HLW := hid hlw; have HCK := hid hck; have HCD := hid hcd
        clear hw3 hcut hae hup hupl hlw hck hcd
        go_wp2_with fail
        refine (all_any _ pa _ (bl.take K) (ls.take wn) tl code wr HUP.out HUPL.out (HE.out.s.frame HF.out) HLW.out HCUT.out HAE.out).mono ?_
        rintro e w3 ⟨vp, rfl, hp, hf3⟩
        have hcode : ErrNo code := by rcases HCD.out with h | h <;> subst h <;> simp [ErrNo]
        have hlen : (recsB (ls.take wn)).length = endB ls wn := rfl
        rw [hlen]
        obtain ⟨pa', pc, rfl⟩ : ∃ a c, vp = .slice a (ls.take wn).length c := by obtain ⟨xs, ho, _⟩ := hp; obtain ⟨a, c, e, _⟩ := own_len ho; exact ⟨a, c, e⟩
        have htw : (ls.take wn).length = wn := by simp; omega
        have HP := hid hp; have HF3 := hid (HF.out.trans' hf3); have HEN3 := hid (hf3.own HEN.out (fun _ _ => not_false)); have HO3 := hid (hf3.own HO.out (fun _ _ => not_false)); have HCO := hid hcode
        clear hp hf3 hcode HEN HO
        rw [htw]
        have HTW := hid htw
        clear htw hlen
        have hecell : ∀ j, j < ls.length → ∃ g cap, u10 = .slice (some ⟨g, 0, none⟩) ls.length cap ∧ w.heap.size ≤ g ∧ w3.cell? ⟨g, j, none⟩ = some (.int .i64 (endB ls (j + 1))) := fun j hj => by
          obtain ⟨g, cap, e, h1, _, h3⟩ := ends_cell HEN3.out (by omega)
          exact ⟨g, cap, e, h1, h3 j hj⟩
        have hvee : ∃ a c, u10 = .slice a ls.length c := by obtain ⟨a, c, e, _⟩ := own_len HEN3.out; exact ⟨a, c, e⟩
        obtain ⟨ea, ec, rfl⟩ := hvee
        replace hecell : ∀ j, j < ls.length → ∃ g, ea = some ⟨g, 0, none⟩ ∧ w.heap.size ≤ g ∧ w3.cell? ⟨g, j, none⟩ = some (.int .i64 (endB ls (j + 1))) := fun j hj => by
          obtain ⟨g, cap, e, h1, h2⟩ := hecell j hj
          simp only [Value.slice.injEq] at e
          exact ⟨g, e.1, h1, h2⟩
        have HEC := hid hecell; have HW1 := hid hw1; have HW2 := hid hw2
        clear hecell hw1 hw2
        go_wp2_with fail
        go_loop [17] (fun x => ∃ j : Nat, j ≤ wn ∧ x = .int .i64 j) (fun x => wn - (intOf x).toNat)
        case atStart => exact ⟨0, by omega, rfl⟩
        case round =>
          obtain ⟨j, hj, rfl⟩ := hrel
          go_upto_region 18 with fail
          go_cut [84] from 73 to 84 (fun c wx => c = .bool (decide (j < wn)) ∧ w3 = wx)
          case first =>
            have hj3 : (j < wn ∧ j < ls.length) ∨ (j = wn ∧ wn < ls.length) ∨ (j = wn ∧ ¬ wn < ls.length) := by have := HW1.out; omega
            rcases hj3 with ⟨h1, h2⟩ | ⟨rfl, h2⟩ | ⟨rfl, h2⟩
            · obtain ⟨g, rfl, _, hc⟩ := HEC.out j h2
              have hle : (endB ls (j + 1) : Int) ≤ K := by have := endB_mono ls (show j + 1 ≤ wn from h1); have := HW2.out; omega
              have hlt : (j : Int) < ls.length := by omega
              go_wp2_with fail
              go_meet
              exact ⟨by simp [h1], rfl⟩
            · obtain ⟨g, rfl, _, hc⟩ := HEC.out j h2
              have hle : ¬ (endB ls (j + 1) : Int) ≤ K := by have := HW3.out h2; omega
              have hlt : (j : Int) < ls.length := by omega
              go_wp2_with fail
              go_meet
              exact ⟨by simp, rfl⟩
            · have hlt : ¬ (j : Int) < ls.length := by omega
              go_wp2_with fail
              go_meet
              exact ⟨by simp, rfl⟩
          case rest =>
          obtain ⟨rfl, rfl⟩ := hcut
          have hj10 : (j : Int) ≤ 10 := by have := HW1.out; omega
          by_cases hjw : j < wn
          · go_wp2_with fail
            go_round
            case rel => exact ⟨j + 1, by omega, by go_num⟩
            case measure => simp [intOf]; omega
          · rw [show decide (j < wn) = false by simp; omega]
            obtain rfl : j = wn := by omega
            go_upto_region 20 with fail
            go_cut [119] from 87 to 119 (fun c wx => c = .bool false ∧ w3 = wx)
            case first =>
              have heq := errV_eql pa code w3
              have hgd := errV_guard pa code w3
              have hbk : ((endB ls j : Int) == K) = (code == 0) := by
                rw [Bool.eq_iff_iff, beq_iff_eq, beq_iff_eq, HCK.out]
                omega
              generalize (code == 0) = cz at *
              rcases Nat.eq_zero_or_pos j with rfl | hpos
              · rw [endB_zero] at hbk ⊢
                replace hbk : ((0 : Int) == K) = cz := by simpa using hbk
                go_wp2_with fail
                go_meet
                exact ⟨by simp, rfl⟩
              · obtain ⟨i, hi⟩ : ∃ i, j = i + 1 := ⟨j - 1, by omega⟩
                obtain ⟨g, rfl, _, hc⟩ := HEC.out i (by have := HW1.out; omega)
                rw [← hi] at hc
                have hji : (j : Int) - 1 = i := by omega
                have hpos' : (0 : Int) < j := by omega
                have hil : (i : Int) < ls.length := by have := HW1.out; omega
                clear hi
                go_wp2_with fail
                go_meet
                exact ⟨by simp, rfl⟩
            case rest =>
            obtain ⟨rfl, rfl⟩ := hcut
            have hpb := HP.out.bss
            obtain ⟨ap, cp, epp, hpc1, hpc2, hpk⟩ := hpb
            simp only [Value.slice.injEq] at epp
            obtain ⟨rfl, _, rfl⟩ := epp
            have HPK := hid hpk
            clear hpk hpc1 hpc2
            go_wp2_with fail
            go_loopw [18] (fun x wr2 => ∃ i n : Nat, i ≤ j ∧ x = .int .i64 i ∧ w3.drewN n = wr2) (fun x _ => j - (intOf x).toNat)
            case atStart => exact ⟨0, 0, by omega, rfl, rfl⟩
            case round =>
              obtain ⟨i, n, hi, rfl, rfl⟩ := hrel
              by_cases hij : i < j
              · obtain ⟨b1, o1, u1, rfl, _, cc1, hu1⟩ := HPK.out i (by rw [HTW.out]; exact hij)
                obtain ⟨b2, o2, u2, rfl, _, cc2, hu2⟩ := HK.out i (by have := HW1.out; omega)
                have cc2 := HF3.out.cell cc2 not_false
                have hg : (ls.take j).getD i [] = ls.getD i [] := by simp [List.getD, List.getElem?_take, hij]
                rw [hg] at hu1
                have hsm : ∀ n, Calls Tryd.prog 13 #[u1, u2] (w3.drewN n) fun e w'' => e = .returned (.bool true) ∧ ∃ m, (w3.drewN n).drewN m = w'' := fun n => (sameBytes_any _ _ _ _ _ _ _ (hu1.frame ((Fr.refl (fun _ => False) w3).drewN n) (fun _ _ => not_false)) (hu2.frame (HF3.out.drewN n) (fun _ _ => not_false))).mono fun _ _ h => ⟨by rw [h.1]; simp, h.2⟩
                have hil : (i : Int) < ls.length := by have := HW1.out; omega
                have HSM := hid hsm
                clear hsm hu1 hu2 hg
                have hdn : ∀ m, w3.drewN m = w3.drewN m := fun _ => rfl
                clear hdn
                go_upto_region 25 with fail
                refine wp_region_cls (fun w' => ∃ m, w3.drewN m = w') (by kernel_rfl) (by kernel_rfl) ⟨n + 1, rfl⟩ ?_
                iterate 8 (refine q_take ?_ (by kernel_rfl) ?_ ?_; rotate_left; (· intro w' hS; obtain ⟨m, rfl⟩ := hS; go_simp; try with_reducible rfl); (try simp only [Act.put, List.setIfInBounds_toArray, List.set_cons_zero, List.set_cons_succ]))
                (refine q_call ?_ ?_ (by kernel_rfl) ?_ ?_; rotate_left 2; (· intro w' hS; obtain ⟨m, rfl⟩ := hS; go_simp; first | with_reducible rfl | (constructor <;> with_reducible rfl)); (refine ⟨_, fun w' hw => by
                  obtain ⟨m, rfl⟩ := hw
                  exact (HSM.out m).mono fun _ _ h => ⟨h.1, by obtain ⟨q, rfl⟩ := h.2; exact ⟨m + q, by simp [World.drewN, Nat.add_assoc]⟩⟩, ?_⟩); (try simp only [Act.put, List.setIfInBounds_toArray, List.set_cons_zero, List.set_cons_succ]))
                (refine q_take ?_ (by kernel_rfl) ?_ ?_; rotate_left; (· intro w' hS; obtain ⟨m, rfl⟩ := hS; go_simp; try with_reducible rfl); (try simp only [Act.put, List.setIfInBounds_toArray, List.set_cons_zero, List.set_cons_succ]))
                refine q_end (fun W9 hw9 => ?_)
                obtain ⟨m9, rfl⟩ := hw9
                go_wp2_with fail
                go_roundw
                case rel => exact ⟨i + 1, m9, by omega, by go_num, rfl⟩
                case measure => simp [intOf]; omega
              · obtain rfl : i = j := by omega
                have HF4 := hid (HF3.out.drewN n)
                have HO4 : Hid (OB w.heap.size (w3.drewN n) (.slice va bl.length vc) bl) := hid HO3.out
                have hec4 : Hid (∀ q, q < ls.length → ∃ g, ea = some ⟨g, 0, none⟩ ∧ w.heap.size ≤ g ∧ (w3.drewN n).cell? ⟨g, q, none⟩ = some (.int .i64 (endB ls (q + 1)))) := hid HEC.out
                generalize w3.drewN n = w4 at *
                clear HF3 HO3 HEC HEN3 HP HPK HCK HCD HAE HCO
                have hbe : ls.length = 0 → bl.length = 0 := fun h => by
                  have h1 := HBL.out
                  rw [List.eq_nil_of_length_eq_zero h] at h1
                  rw [← h1]
                  rfl
                by_cases hb0 : bl.length = 0 ∨ by_ = 0
                · have hq : ((bl.length : Int) == 0) = true ∨ (((bl.length : Int) == 0) = false ∧ ((by_ : Int) == 0) = true) := by
                    rw [beq_iff_eq, beq_iff_eq, beq_eq_false_iff_ne]
                    omega
                  clear hb0 hbe hnl
                  rcases hq with hq | ⟨hq, hq2⟩
                  all_goals
                    go_wp2_with fail
                    go_ret
                    exact ⟨rfl, HF4.out⟩
                · have hq : ((bl.length : Int) == 0) = false := by rw [beq_eq_false_iff_ne]; omega
                  have hq2 : ((by_ : Int) == 0) = false := by rw [beq_eq_false_iff_ne]; omega
                  have hbpos : 0 < bl.length := by omega
                  have hby0 : by_ ≠ 0 := by omega
                  clear hb0 hbe
                  have HBY0 := hid hby0
                  clear hby0
                  go_wp2_with fail
                  refine (number_any at_ (bl.length : Int) w4 (by omega) (by omega) HA1.out HA2.out).mono ?_
                  rintro e w5 ⟨rfl, rfl⟩
                  obtain ⟨I, hI, hIn⟩ : ∃ I : Nat, at_ % (bl.length : Int) = I ∧ I < bl.length := by
                    have g1 := Int.emod_nonneg at_ (show (bl.length : Int) ≠ 0 by omega)
                    have g2 := Int.emod_lt_of_pos at_ (show 0 < (bl.length : Int) by omega)
                    exact ⟨(at_ % (bl.length : Int)).toNat, by omega, by omega⟩
                  rw [hI]
                  clear hI
                  obtain ⟨jn, hj1, hj2, hj3⟩ := want_of ls I
                  have hjl : jn < ls.length := by
                    rcases Nat.lt_or_eq_of_le hj1 with h | h
                    · exact h
                    · subst h; rw [endB_all, HBL.out] at hj2; omega
                  replace hj3 := hj3 hjl
                  have HJ2 := hid hj2; have HJ3 := hid hj3
                  clear hj1 hj2 hj3
                  go_wp2_with fail
                  go_loop [20] (fun x => ∃ q : Nat, q ≤ jn ∧ x = .int .i64 q) (fun x => jn - (intOf x).toNat)
                  case atStart => exact ⟨0, by omega, rfl⟩
                  case round =>
                    obtain ⟨q, hq0, rfl⟩ := hrel
                    obtain ⟨g, rfl, hwg, hc⟩ := hec4.out q (by omega)
                    have hq10 : (q : Int) ≤ 10 := by omega
                    have hql : (q : Int) < ls.length := by omega
                    by_cases hqj : q < jn
                    · have hle : (endB ls (q + 1) : Int) ≤ I := by have := endB_mono ls (show q + 1 ≤ jn from hqj); have := HJ2.out; omega
                      go_wp2_with fail
                      go_round
                      case rel => exact ⟨q + 1, by omega, by go_num⟩
                      case measure => simp [intOf]; omega
                    · obtain rfl : q = jn := by omega
                      have hle : ¬ (endB ls (q + 1) : Int) ≤ I := by have := HJ3.out; omega
                      go_upto_if 155 with fail
                      go_cut [21] from 155 to 160 (fun c wx => c = .int .i64 (endB ls q) ∧ w4 = wx)
                      case first =>
                        rcases Nat.eq_zero_or_pos q with rfl | hpos
                        · have hz := endB_zero ls
                          have HZ := hid hz
                          clear hz
                          go_wp2_with fail
                          go_meet
                          exact ⟨by rw [HZ.out]; rfl, rfl⟩
                        · obtain ⟨q', hq'⟩ : ∃ q', q = q' + 1 := ⟨q - 1, by omega⟩
                          obtain ⟨g2, hg2, _, hc2⟩ := hec4.out q' (by omega)
                          simp only [Option.some.injEq, Addr.mk.injEq] at hg2
                          obtain ⟨rfl, _, _⟩ := hg2
                          rw [← hq'] at hc2
                          have hji : (q : Int) - 1 = q' := by omega
                          have hpos' : (0 : Int) < q := by omega
                          have hil : (q' : Int) < ls.length := by omega
                          clear hq'
                          go_wp2_with fail
                          go_meet
                          exact ⟨rfl, rfl⟩
                      case rest =>
                      obtain ⟨rfl, rfl⟩ := hcut
                      by_cases hI4 : I < endB ls q + 4
                      · have hI4' : (I : Int) < (endB ls q : Int) + 4 := by omega
                        have hIb : (endB ls q : Int) ≤ I := by have := HJ2.out; omega
                        have hIb2 : (I : Int) < bl.length := by omega
                        go_wp2_with fail
                        go_ret
                        exact ⟨rfl, HF4.out⟩
                      · have hI4' : ¬ (I : Int) < (endB ls q : Int) + 4 := by omega
                        have hIb : (endB ls q : Int) ≤ I := by have := HJ2.out; omega
                        have hIb2 : (I : Int) < bl.length := by omega
                        obtain ⟨tl2, hset, hae2⟩ := turn_end ls I q (UInt8.ofNat by_) HLS.out (fun e => by
                          have := congrArg UInt8.toNat e
                          rw [UInt8.toNat_ofNat', Nat.mod_eq_of_lt hby] at this
                          exact HBY0.out this) hjl (by omega) HJ3.out
                        rw [HBL.out] at hset
                        obtain ⟨gb, cb, hva, hgb, -⟩ := OB.addr HO4.out hbpos
                        simp only [Value.slice.injEq] at hva
                        obtain ⟨rfl, _, rfl⟩ := hva
                        have hcl := (OB.cell HO4.out I hIn).1
                        have hfz := (OB.cell HO4.out I hIn).2
                        have hxr := xor_by (bl.getD I 0) by_ hby
                        have hns := OB.set HO4.out I hIn (bl.getD I 0 ^^^ UInt8.ofNat by_)
                        have hbs := OB.bs hns
                        have hnf := HF4.out.setCell (p := ⟨gb, I, none⟩) (.inr hgb) (.int .u8 (bl.getD I 0 ^^^ UInt8.ofNat by_).toNat)
                        have hsl : (bl.set I (bl.getD I 0 ^^^ UInt8.ofNat by_)).length = bl.length := by simp
                        have hlq : ∀ r ∈ ls.take q, r.length ≤ 4194304 := fun r hr => HLS.out r (List.mem_of_mem_take hr)
                        have htq : (ls.take q).length = q := by simp; omega
                        generalize hx : bl.getD I 0 = x at *
                        generalize hy : x ^^^ UInt8.ofNat by_ = y at *
                        have HX := hid hx; have HY := hid hy; have HBS2 := hid hbs; have HNS := hid hns; have HNF := hid hnf; have HSET := hid hset; have HAE2 := hid hae2; have HSL := hid hsl; have HLQ := hid hlq; have HTQ := hid htq
                        clear hx hy hbs hns hnf hset hae2 hsl hlq htq hnl
                        go_wp2_with fail
                        have hq1 : (bl.set I y).length ≤ 1073741824 := by rw [HSL.out]; omega
                        refine (all_any _ pa _ (bl.set I y) (ls.take q) tl2 102 _ HBS2.out hq1 (HE.out.s.frame HNF.out) HLQ.out HSET.out HAE2.out).mono ?_
                        rintro e w6 ⟨v6, rfl, hr6, hf6⟩
                        obtain ⟨a6, c6, rfl⟩ : ∃ a c, v6 = .slice a (ls.take q).length c := by obtain ⟨xs, ho, _⟩ := hr6; obtain ⟨a, c, e, _⟩ := own_len ho; exact ⟨a, c, e⟩
                        rw [HTQ.out]
                        have HF6 := hid (HNF.out.trans' hf6)
                        clear hr6 hf6 hq1
                        go_wp2_with fail
                        refine (is_num w6 pa (HE.out.frame HF6.out) 102 (by simp [ErrNo]) _).mono ?_
                        rintro e w7 ⟨rfl, hf7⟩
                        rw [show decide (((102 : Nat) : Int) = 102) = true by decide]
                        have HF7 := hid (HF6.out.trans' hf7)
                        clear hf7
                        go_wp2_with fail
                        go_ret
                        exact ⟨rfl, HF7.out⟩
end Go.Proofs.YtlpbjmgpckhneaaDoor
