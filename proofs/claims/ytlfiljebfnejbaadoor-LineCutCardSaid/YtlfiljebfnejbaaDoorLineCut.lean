/- The statement LineCut, walked. -/
import Derived.Test.YtlfiljebfnejbaaDoorOutTake
import Derived.Test.YtlfiljebfnejbaaDoorLineFirst
import Derived.Test.YtlfiljebfnejbaaDoorNumber
namespace Go.Proofs.YtlfiljebfnejbaaDoor
open Go.RowKit

def signs (l : List UInt8) : List UInt8 := l.filter fun c => pln c.toNat
def fedB (l : List UInt8) : List UInt8 := l.filter fun c => c != 10
theorem clean_signs (m : Nat) (l : List UInt8) : clean m l = (signs l).take m := by
  have : ∀ (l b : List UInt8), b.length ≤ m → l.foldl (cleanStep m) b = (b ++ signs l).take m := by
    intro l
    induction l with
    | nil => intro b h; simp [signs, List.take_of_length_le h]
    | cons c l ih =>
      intro b h
      rw [List.foldl_cons]
      by_cases hp : pln c.toNat = true
      · have e : signs (c :: l) = c :: signs l := by simp [signs, hp]
        rw [e]
        by_cases hl : b.length < m
        · have e2 : cleanStep m b c = b ++ [c] := by simp [cleanStep, hp, hl]
          rw [e2, ih _ (by simp; omega)]
          simp
        · have e2 : cleanStep m b c = b := by simp [cleanStep, hl]
          rw [e2, ih _ h]
          have hm : b.length = m := by omega
          rw [List.take_append, List.take_append, List.take_of_length_le h]
          simp [hm]
      · have e : signs (c :: l) = signs l := by simp [signs, hp]
        have e2 : cleanStep m b c = b := by simp [cleanStep, hp]
        rw [e, e2, ih _ h]
  have := this l [] (Nat.zero_le _)
  simpa [clean] using this
theorem signs_fed (l : List UInt8) : signs (fedB l) = signs l := by
  unfold signs fedB
  rw [List.filter_filter]
  congr 1
  funext c
  by_cases h : c = 10
  · subst h
    decide
  · simp [h]
theorem feed_fed (m : Nat) (l : List UInt8) : feed m ([], []) (fedB l ++ [10]) = ([clean m l], []) := by
  have : ∀ (l b : List UInt8), feed m ([], b) (fedB l) = ([], l.foldl (cleanStep m) b) := by
    intro l
    induction l with
    | nil => intro b; rfl
    | cons c l ih =>
      intro b
      by_cases h : c = 10
      · subst h
        have e : fedB (10 :: l) = fedB l := by simp [fedB]
        have e2 : cleanStep m b 10 = b := by unfold cleanStep; rw [if_neg (fun h => absurd h.1 (by decide))]
        rw [e, List.foldl_cons, e2, ih]
      · have e : fedB (c :: l) = c :: fedB l := by simp [fedB, h]
        have e2 : feedStep m ([], b) c = ([], cleanStep m b c) := by
          unfold feedStep cleanStep
          rw [if_neg h]
          by_cases hc : pln c.toNat = true ∧ b.length < m
          · rw [if_pos hc, if_pos ⟨hc.1, by show (b.length : Int) < m; omega⟩]
          · rw [if_neg hc, if_neg (fun h' => hc ⟨h'.1, by have h2 : (b.length : Int) < m := h'.2; omega⟩)]
        rw [e, List.foldl_cons]
        show feed m (feedStep m ([], b) c) (fedB l) = _
        rw [e2, ih]
  have h1 := this l []
  unfold feed at h1 ⊢
  rw [List.foldl_append, h1]
  simp [feedStep, clean]
theorem filter_take_succ (p : UInt8 → Bool) (l : List UInt8) (k : Nat) (h : k < l.length) : (l.take (k + 1)).filter p = (l.take k).filter p ++ (if p (l.getD k 0) then [l.getD k 0] else []) := by
  rw [take_snoc l k 0 h, List.filter_append]
  congr 1
  generalize l.getD k 0 = x
  cases h : p x <;> simp [List.filter, h]

theorem Bs.upto {D : Nat → Prop} {w : World} {a : Option Addr} {c : Nat} {l : List UInt8} (h : Bs D w (.slice a l.length c) l) (i : Nat) (hi : i ≤ l.length) : Bs D w (.slice a i c) (l.take i) := by
  obtain ⟨a0, c0, e, h1, h2, hk⟩ := h
  simp only [Value.slice.injEq] at e
  obtain ⟨rfl, _, rfl⟩ := e
  refine ⟨a, c, by simp [Nat.min_eq_left hi], by simp; omega, h2, fun k hk' => ?_⟩
  have hki : k < i := by simp at hk'; omega
  obtain ⟨b, o, e, hD, hc⟩ := hk k (by omega)
  refine ⟨b, o, e, hD, ?_⟩
  rw [hc]
  simp [List.getD, List.getElem?_take, hki]
theorem ss_nil {D : Nat → Prop} {w : World} : Ss D w (.slice none 0 0) [] := ⟨_, _, rfl, Nat.le_refl _, Nat.zero_le _, fun k hk => by simp at hk⟩
theorem drop_one (M : Nat) (x : List UInt8) (h : x.length + 1 ≤ M) : dropTo M [x] 0 = ([x], 0) := by
  unfold dropTo
  rw [if_neg (by rw [usedB_cons]; simp [usedB]; omega)]
theorem own_text {w : World} {base : Nat} {v : Value} {x : List UInt8} (h : w.ownsRow base 9 1 v (txt [x]).length (sV (txt [x]))) : ∃ g cap, v = .slice (some ⟨g, 0, none⟩) 1 cap ∧ base ≤ g ∧ g < w.heap.size ∧ w.cell? ⟨g, 0, none⟩ = some (.string ⟨x.toArray⟩) := by
  rcases own_heap h with ⟨_, h0, _⟩ | ⟨g, cap, e, hb, hg, hc⟩
  · simp at h0
  · exact ⟨g, cap, e, hb, hg, by rw [hc 0 (by simp)]; rfl⟩

set_option maxRecDepth 100000 in
set_option maxHeartbeats 1600000 in
theorem lineCut_any (v : Value) (l : List UInt8) (mi : Int) (m1 : -9223372036854775808 ≤ mi) (m2 : mi ≤ 9223372036854775807) (w : World) (hB : Bs (fun _ => True) w v l) :
    Calls Tryd.prog 3 #[v, .int .i64 mi] w fun e w' => e = .returned (.bool true) ∧ Fr (fun _ => False) w w' := by
  have hB0 := hB
  obtain ⟨a, c, rfl, hlc, hcm, hk⟩ := hB
  have hml : l.length ≤ 9223372036854775807 := Nat.le_trans hlc hcm
  have HB := hid hB0; have HK := hid hk; have HM1 := hid m1; have HM2 := hid m2
  clear hB0 hk hlc hcm m1 m2
  by_cases h200 : 200 < l.length
  · have h' : decide ((200 : Int) < l.length) = true := by simp; omega
    go_enter Tryd.func3, Tryd.ntmps3
    go_wp2_with fail
    refine (first_any _).mono ?_
    rintro e w1 ⟨rfl, hf⟩
    go_wp2_with fail
    go_ret
    exact ⟨rfl, hf⟩
  · have h' : decide ((200 : Int) < l.length) = false := by simp; omega
    have hlI : (l.length : Int) ≤ 200 := by omega
    go_enter Tryd.func3, Tryd.ntmps3
    go_wp2_with fail
    refine (first_any _).mono ?_
    rintro e w1 ⟨rfl, hf⟩
    have HF := hid hf
    clear hf
    go_wp2_with fail
    refine (number_any mi 60 w1 (by omega) (by omega) HM1.out HM2.out).mono ?_
    rintro e w2 ⟨rfl, rfl⟩
    obtain ⟨q, hq, hq60⟩ : ∃ q : Nat, mi % 60 = q ∧ q < 60 := by
      have g1 := Int.emod_nonneg mi (show (60 : Int) ≠ 0 by omega)
      have g2 := Int.emod_lt_of_pos mi (show (0 : Int) < 60 by omega)
      exact ⟨(mi % 60).toNat, by omega, by omega⟩
    rw [hq]
    clear hq
    obtain ⟨M, hM⟩ : ∃ M : Nat, q + 2 = M := ⟨_, rfl⟩
    have hMI : (q : Int) + 2 = (M : Int) := by omega
    have hMlo : 2 ≤ M := by omega
    have hMhi : (M : Int) ≤ 61 := by omega
    clear hM
    go_wp2_with fail
    refine (newIn_any _ _).mono ?_
    rintro e w2 ⟨rfl, rfl⟩
    have hbn : ∀ o, bnd (M : Int) o = M := fun o => by unfold bnd; rw [if_neg (by omega), if_neg (by omega)]
    rw [hbn]
    have hin := in_fresh w1 (M : Int) 46
    have hF2 := HF.out.alloc (.cells #[.int .i64 (M : Int), .slice none 0 0] 46)
    have hs2 : (w1.alloc (.cells #[.int .i64 (M : Int), .slice none 0 0] 46)).heap.size = w1.heap.size + 1 := by simp
    generalize w1.alloc (.cells #[.int .i64 (M : Int), .slice none 0 0] 46) = w2 at *
    have hi1 := HF.out.size
    generalize w1.heap.size = Bi at *
    have HIN := hid hin; have HF2 := hid hF2; have HS2 := hid hs2; have HI1 := hid hi1
    clear hin hF2 hs2 hi1
    go_wp2_with fail
    refine (newOut_any _ _).mono ?_
    rintro e w3 ⟨rfl, hout, hf3⟩
    rw [hbn] at hout
    have hso := heap_lt hout.heap
    have HF3 := hid (HF2.out.trans' hf3); have HIN3 := hid (HIN.out.frame hf3 not_false (fun _ _ => not_false)); have HOUT := hid hout; have HSO := hid hso
    have hib : Bi < w2.heap.size := by rw [HS2.out]; omega
    have HIB := hid hib
    generalize w2.heap.size = Bo at *
    clear hout hf3 hso hib HIN HF2 HS2 hbn
    go_wp2_with fail
    go_loopw [8, 9] (fun v i wr => ∃ k : Nat, k ≤ l.length ∧ i = .int .i64 k ∧ Hid (wr.ownsRow w3.heap.size 5 1 v (signs (l.take k)).length (bV (signs (l.take k)))) ∧ Hid (Fr (fun _ => False) w3 wr)) (fun _ i _ => l.length - (intOf i).toNat)
    case atStart => exact ⟨0, Nat.zero_le _, rfl, hid (World.ownsRow_nil _ _ _ _), hid (Fr.refl _ _)⟩
    case round =>
      obtain ⟨k, hkl, rfl, hO, hf⟩ := hrel
      by_cases hlt : k < l.length
      · obtain ⟨b, o, rfl, -, hcw⟩ := HK.out k hlt
        have hcr := (HF3.out.trans' hf.out).cell hcw not_false
        have hst := filter_take_succ (fun c => pln c.toNat) l k hlt
        have hcl : (signs (l.take k)).length ≤ 200 := by have := List.length_filter_le (fun c : UInt8 => pln c.toNat) (l.take k); have h2 := List.length_take_le k l; unfold signs; omega
        generalize l.getD k 0 = ch at *
        have hown := World.ownsRow.alloc hO.out (.cells #[.int .u8 ch.toNat] 5)
        have hce := cell_new1 wr (.int .u8 ch.toNat) 5 (0, 0)
        have hbs : w3.heap.size ≤ (wr.alloc (.cells #[.int .u8 ch.toNat] 5)).heap.size := by have := hf.out.size; simp; omega
        have hn1 : (signs (l.take k)).length + 1 ≤ 1099511627776 := by omega
        have HST := hid hst; have HOWA := hid hown; have HCE := hid hce; have HBS := hid hbs; have HN1 := hid hn1
        clear hst hcw hown hce hbs hn1 hcl
        by_cases hp : pln ch.toNat = true
        · have hp1 : (32 : Int) ≤ ch.toNat := by unfold pln at hp; simp at hp; omega
          have hp2 : (ch.toNat : Int) ≤ 126 := by unfold pln at hp; simp at hp; omega
          have HP := hid hp
          clear hp
          go_wp2_with (at_builtin; go_must (refine wpList_append1 rfl (.tmp 56) (.tmp 61) 22 rfl 5 (.int .u8 0) 1 Tryd.underlying22 Tryd.info_byte rfl _ rfl w3.heap.size (signs (l.take k)).length (bV (signs (l.take k))) HOWA.out wr.heap.size 1 (.int .u8 ch.toNat) rfl HCE.out rfl HN1.out (by decide) HBS.out ?_))
          intro g cap w4 ho4 hf4 _
          have hF4 : Fr (fun _ => False) w3 w4 := (hf.out.alloc (.cells #[.int .u8 ch.toNat] 5)).trans hf4 (fun _ _ h => h) (fun x hx e => by
            have := HOWA.out.lt x e.symm
            omega)
          have hO4 : w4.ownsRow w3.heap.size 5 1 (.slice (some ⟨g, 0, none⟩) ((signs (l.take k)).length + 1) cap) (signs (l.take (k + 1))).length (bV (signs (l.take (k + 1)))) := by
            have e : signs (l.take (k + 1)) = signs (l.take k) ++ [ch] := by unfold signs; rw [HST.out, if_pos HP.out]
            rw [e]
            simpa [bV] using ho4
          have HF4 := hid hF4; have HO4 := hid hO4
          clear ho4 hf4 hF4 hO4
          go_wp2_with fail
          go_roundw
          case rel => exact ⟨k + 1, by omega, by go_num, HO4, HF4⟩
          case measure => simp [intOf]; omega
        · have hp1 : ¬ (32 : Int) ≤ ch.toNat ∨ ((32 : Int) ≤ ch.toNat ∧ ¬ (ch.toNat : Int) ≤ 126) := by unfold pln at hp; simp at hp; omega
          have e : signs (l.take (k + 1)) = signs (l.take k) := by unfold signs; rw [HST.out, if_neg hp, List.append_nil]
          have HE := hid e
          clear hp e
          rcases hp1 with hp1 | ⟨hp1, hp2⟩
          all_goals
            go_wp2_with fail
            go_roundw
            case rel => exact ⟨k + 1, by omega, by go_num, by rw [HE.out]; exact hO, hf⟩
            case measure => simp [intOf]; omega
      · obtain rfl : k = l.length := by omega
        rw [List.take_length] at hO
        obtain ⟨wo, rfl⟩ : ∃ wo : World, wo = wr := ⟨_, rfl⟩
        have HSG := hO
        have HFF := hf
        have HF4 := hid (HF3.out.trans' hf.out)
        clear hO hf
        go_wp2_with fail
        go_loopw [10, 11] (fun v i wr => ∃ k : Nat, k ≤ l.length ∧ i = .int .i64 k ∧ Hid (wr.ownsRow wo.heap.size 5 1 v (fedB (l.take k)).length (bV (fedB (l.take k)))) ∧ Hid (Fr (fun _ => False) wo wr)) (fun _ i _ => l.length - (intOf i).toNat)
        case atStart => exact ⟨0, Nat.zero_le _, rfl, hid (World.ownsRow_nil _ _ _ _), hid (Fr.refl _ _)⟩
        case round =>
          obtain ⟨k, hkl2, rfl, hO, hf⟩ := hrel
          by_cases hlt : k < l.length
          · obtain ⟨b, o, rfl, -, hcw⟩ := HK.out k hlt
            have hcr := (HF4.out.trans' hf.out).cell hcw not_false
            have hst := filter_take_succ (fun c => c != 10) l k hlt
            have hcl : (fedB (l.take k)).length ≤ 200 := by have := List.length_filter_le (fun c : UInt8 => c != 10) (l.take k); have h2 := List.length_take_le k l; unfold fedB; omega
            generalize l.getD k 0 = ch at *
            have hown := World.ownsRow.alloc hO.out (.cells #[.int .u8 ch.toNat] 5)
            have hce := cell_new1 wr (.int .u8 ch.toNat) 5 (0, 0)
            have hbs : wo.heap.size ≤ (wr.alloc (.cells #[.int .u8 ch.toNat] 5)).heap.size := by have := hf.out.size; simp; omega
            have hn1 : (fedB (l.take k)).length + 1 ≤ 1099511627776 := by omega
            have HST := hid hst; have HOWA := hid hown; have HCE := hid hce; have HBS := hid hbs; have HN1 := hid hn1
            clear hst hcw hown hce hbs hn1 hcl
            by_cases hp : ch = 10
            · have hq10 : ((ch.toNat : Int) != 10) = false := by subst hp; decide
              have e : fedB (l.take (k + 1)) = fedB (l.take k) := by unfold fedB; rw [HST.out, if_neg (by subst hp; decide), List.append_nil]
              have HE := hid e
              clear hp e
              go_wp2_with fail
              go_roundw
              case rel => exact ⟨k + 1, by omega, by go_num, by rw [HE.out]; exact hO, hf⟩
              case measure => simp [intOf]; omega
            · have hq10 : ((ch.toNat : Int) != 10) = true := by
                rw [bne_iff_ne]
                intro e
                exact hp (UInt8.toNat.inj (by simp; omega))
              have e : fedB (l.take (k + 1)) = fedB (l.take k) ++ [ch] := by unfold fedB; rw [HST.out, if_pos (by simpa using hp)]
              have HE := hid e
              clear hp e
              go_wp2_with (at_builtin; go_must (refine wpList_append1 rfl (.tmp 74) (.tmp 79) 22 rfl 5 (.int .u8 0) 1 Tryd.underlying22 Tryd.info_byte rfl _ rfl wo.heap.size (fedB (l.take k)).length (bV (fedB (l.take k))) HOWA.out wr.heap.size 1 (.int .u8 ch.toNat) rfl HCE.out rfl HN1.out (by decide) HBS.out ?_))
              intro g cap w4 ho4 hf4 _
              have hF4 : Fr (fun _ => False) wo w4 := (hf.out.alloc (.cells #[.int .u8 ch.toNat] 5)).trans hf4 (fun _ _ h => h) (fun x hx e => by
                have := HOWA.out.lt x e.symm
                omega)
              have hO4 : w4.ownsRow wo.heap.size 5 1 (.slice (some ⟨g, 0, none⟩) ((fedB (l.take k)).length + 1) cap) (fedB (l.take (k + 1))).length (bV (fedB (l.take (k + 1)))) := by
                rw [HE.out]
                simpa [bV] using ho4
              have HF5 := hid hF4; have HO4 := hid hO4
              clear ho4 hf4 hF4 hO4
              go_wp2_with fail
              go_roundw
              case rel => exact ⟨k + 1, by omega, by go_num, HO4, HF5⟩
              case measure => simp [intOf]; omega
          · obtain rfl : k = l.length := by omega
            rw [List.take_length] at hO
            have hcl : (fedB l).length ≤ 200 := by have := List.length_filter_le (fun c : UInt8 => c != 10) l; unfold fedB; omega
            have hown := World.ownsRow.alloc hO.out (.cells #[.int .u8 10] 5)
            have hce := cell_new1 wr (.int .u8 10) 5 (0, 0)
            have hbs : wo.heap.size ≤ (wr.alloc (.cells #[.int .u8 10] 5)).heap.size := by have := hf.out.size; simp; omega
            have hn1 : (fedB l).length + 1 ≤ 1099511627776 := by omega
            have HOWA := hid hown; have HCE := hid hce; have HBS := hid hbs; have HN1 := hid hn1; have HCL := hid hcl; have HFW := hf
            clear hown hce hbs hn1 hcl hO hf
            go_wp2_with (at_builtin; go_must (refine wpList_append1 rfl (.tmp 82) (.tmp 83) 22 rfl 5 (.int .u8 0) 1 Tryd.underlying22 Tryd.info_byte rfl _ rfl wo.heap.size (fedB l).length (bV (fedB l)) HOWA.out wr.heap.size 1 (.int .u8 10) rfl HCE.out rfl HN1.out (by decide) HBS.out ?_))
            intro g cap w4 ho4 hf4 _
            have hF4 : Fr (fun _ => False) wo w4 := (HFW.out.alloc (.cells #[.int .u8 10] 5)).trans hf4 (fun _ _ h => h) (fun x hx e => by
              have := HOWA.out.lt x e.symm
              omega)
            have hb4 : Bs (fun k => wo.heap.size ≤ k) w4 (.slice (some ⟨g, 0, none⟩) ((fedB l).length + 1) cap) (fedB l ++ [10]) := by
              have h1 : w4.ownsRow wo.heap.size 5 1 (.slice (some ⟨g, 0, none⟩) ((fedB l).length + 1) cap) (fedB l ++ [10]).length (bV (fedB l ++ [10])) := by simpa [bV] using ho4
              exact (Bs.own h1).mono (fun k _ hk => (h1.lt k hk).1)
            have hin4 := HIN3.out.frame (HFF.out.trans' hF4) not_false (fun _ _ => not_false)
            have hbo : Bo < wo.heap.size := by have := HFF.out.size; have := HSO.out; omega
            have hsg4 := hF4.own HSG.out (fun _ _ => not_false)
            have hout4 := HOUT.out.frame (HFF.out.trans' hF4) not_false (fun _ _ => not_false)
            have HF5 := hid (HF4.out.trans' hF4); have HB4 := hid hb4; have HIN4 := hid hin4; have HBO := hid hbo; have HSG4 := hid hsg4; have HOUT4 := hid hout4
            clear ho4 hf4 hF4 hb4 hin4 hbo hsg4 hout4 HOWA HCE HBS
            go_wp2_with fail
            refine (feed_any (fun k => wo.heap.size ≤ k) Bi M _ _ [] (fedB l ++ [10]) w4 HIN4.out HB4.out (fun k hk hs => by
              have h1 := HIB.out; have h2 := HBO.out
              rcases hs with rfl | hs
              · omega
              · cases hs) (by have := HCL.out; simp; omega)).mono ?_
            rintro e w5 ⟨ov, bv', rfl, hfe⟩
            rw [feed_fed] at hfe
            have hfi : Fr (fun k => k = Bi) w4 w5 := hfe.fr.mono (fun k _ h => by rcases h with h | h; exact h; cases h)
            obtain ⟨go, co, rfl, hgo, hgos, hoc⟩ := own_text (x := clean M l) (by simpa using hfe.out)
            have hbufI := hfe.at_
            have hw4 := HF5.out.size
            have hF6 : Fr (fun _ => False) w w5 := HF5.out.trans hfi (fun _ _ h => h) (fun k hk e => by have := HI1.out; omega)
            have hsg5 := HSG4.out
            have hout5 := HOUT4.out.frame hfi (fun e => by have := HIB.out; omega) (fun _ h => by cases h)
            have hsg6 := hfi.own HSG4.out (fun k hk e => by have := (HSG4.out.lt k hk).1; have := HSO.out; have := HIB.out; omega)
            have hbs5 := HB.out.frame hF6 (fun _ _ => not_false)
            have hcv := conv_bytes hbs5 22 5 9 Tryd.underlying22 Tryd.underlying5 Tryd.underlying9
            have hout6 : OutAt Bo w5 Bo M (usedB [] : Nat) (0 : Nat) (.slice none 0 0) [] := by simpa [usedB] using hout5
            have hbo5 : Bo ≤ w5.heap.size := by have := hfi.size; have := HBO.out; have := (HF5.out.size); have := heap_lt hout5.heap; omega
            have hsz : (ByteArray.mk l.toArray).size ≤ 1048576 := by simp [ByteArray.size]; omega
            have hcl2 := clean_len (M - 1) l
            have hgoB : Bo < go := by have := HBO.out; have := HSO.out; have := heap_lt HOUT4.out.heap; omega
            have HGOS := hid hgos; clear hgos
            have HBV : Hid (∀ k, bv'.ownBlock = some k → w4.heap.size ≤ k) := hid (fun k hk => by rcases hfe.blk k hk with h | h; cases h; exact h)
            have HFI := hid hfi; have HOC := hid hoc; have HBUF := hid hbufI; have HF6 := hid hF6; have HOUT6 := hid hout6; have HSG6 := hid hsg6; have HBO5 := hid hbo5; have HSZ := hid hsz; have HCL2 := hid hcl2; have HGOB := hid hgoB
            clear hfe hfi hoc hbufI hw4 hF6 hsg5 hout5 hsg6 hbs5 hout6 hbo5 hsz hcl2 hgoB hgo
            go_wp2_with fail
            refine (put_any Bo Bo M 0 _ [] ⟨l.toArray⟩ w5 HOUT6.out (by omega) (by omega) (by simp [usedB]) (by omega) HSZ.out HBO5.out).mono ?_
            rintro e w6 ⟨rfl, lv6, hp6, hf6, hlv6⟩
            have hdt : dropTo M ([] ++ [clean (M - 1) (ByteArray.mk l.toArray).data.toList]) 0 = ([clean (M - 1) l], 0) := drop_one M _ (by have := HCL2.out; simp; omega)
            rw [hdt] at hp6
            have hfo : Fr (fun k => k = Bo) w5 w6 := hf6.mono (fun k _ h => by rcases h with h | h; exact h; cases h)
            have hgob := HGOB.out
            have hF7 := HF6.out.mono (T := fun k => k = Bo) (fun _ _ h => h.elim)
            have HF7 := hid (hF7.trans' hfo)
            have HP6 : Hid (OutAt Bo w6 Bo M (usedB [clean (M - 1) l]) (0 : Nat) lv6 [clean (M - 1) l]) := hid hp6
            have HIN6 : Hid (InAt 46 w6 Bi M bv' []) := hid (HBUF.out.frame hfo (fun e => by have := HIB.out; omega) (fun k hk e => by have := HBV.out k hk; have := heap_lt HOUT4.out.heap; omega))
            have HOC6 := hid (hfo.cell HOC.out (by show go ≠ Bo; omega))
            have HSG7 := hid (hfo.own HSG6.out (fun k hk e => by have := (HSG6.out.lt k hk).1; have := HSO.out; omega))
            have hb6 : Bo ≤ w6.heap.size := by have := hfo.size; have := HBO5.out; omega
            have hs6 := hfo.size
            clear hdt hp6 hf6 hlv6 hfo hF7
            go_wp2_with fail
            refine (take_any Bo Bo M 0 lv6 [clean (M - 1) l] 9 w6 HP6.out (by omega) (by rw [usedB_cons]; have := HCL2.out; simp [usedB]; omega) (by omega) (by omega) (by omega) hb6).mono ?_
            rintro e w7 ⟨mv, lv7, rfl, hov, hp7, hf7, hl7, hd7, -⟩
            obtain ⟨gm, cm, rfl, hgm, hgm2, hmc⟩ := own_text (x := clean (M - 1) l) (by simpa [takeB, txt, sV] using hov)
            have hp7' : OutAt Bo w7 Bo M (usedB []) (0 : Nat) lv7 [] := hp7
            have HF8 := hid (HF7.out.trans' hf7)
            have hgo6 : go < w6.heap.size := by have := HGOS.out; omega
            have HIN7 : Hid (InAt 46 w7 Bi M bv' []) := hid (HIN6.out.frame hf7 (fun e => by have := HIB.out; omega) (fun k hk e => by have := HBV.out k hk; have := heap_lt HOUT4.out.heap; omega))
            have hsg8 := hf7.own HSG7.out (fun k hk e => by have := (HSG7.out.lt k hk).1; have := HSO.out; omega)
            have hoc7 := hf7.cell HOC6.out (by show go ≠ Bo; omega)
            have hgmB : gm ≠ Bo := by omega
            obtain ⟨sa, sc, rfl, hslc, hscm, -⟩ := Bs.own hsg8
            obtain ⟨j1, hj1⟩ : ∃ j, min (signs l).length M = j := ⟨_, rfl⟩
            obtain ⟨j2, hj2⟩ : ∃ j, min (signs l).length (M - 1) = j := ⟨_, rfl⟩
            have hc1 : clean M l = (signs l).take j1 := by rw [clean_signs, ← hj1]; rcases Nat.le_total (signs l).length M with h | h; rw [Nat.min_eq_left h, List.take_length, List.take_of_length_le h]; rw [Nat.min_eq_right h]
            have hc2 : clean (M - 1) l = (signs l).take j2 := by rw [clean_signs, ← hj2]; rcases Nat.le_total (signs l).length (M - 1) with h | h; rw [Nat.min_eq_left h, List.take_length, List.take_of_length_le h]; rw [Nat.min_eq_right h]
            have hmin1 : min ((signs l).length : Int) (M : Int) = j1 := by omega
            have hmin2 : min ((signs l).length : Int) ((M : Int) - 1) = j2 := by omega
            have hbs7 : ∀ w' j, Fr (fun k => k = Bo) w7 w' → j ≤ (signs l).length → Sem.run Tryd.prog (convert 22 9 (.slice sa j sc)) w' = .ok (.string ⟨((signs l).take j).toArray⟩) w' := fun w' j hw hj => conv_bytes ((Bs.own (hw.own hsg8 (fun k hk e => by have := (hsg8.lt k hk).1; have := HSO.out; omega))).upto j hj) 22 5 9 Tryd.underlying22 Tryd.underlying5 Tryd.underlying9
            have HCV := hid hbs7; have HOC7 := hid hoc7; have HMC := hid hmc; have HP7 := hid hp7'; have HF7' := hid hf7; have HC1 := hid hc1; have HC2 := hid hc2
            clear hc1 hc2 hbs7 hoc7 hmc hp7 hp7' hf7 hov hl7 hd7 hsg8 HSG7 HSG6 HSG4
            have hdr := (Fr.refl (fun k => k = Bo) w7).drew
            have hpd := hid (HP7.out.frame (Fr.refl (fun _ => False) w7).drew not_false (fun _ _ => not_false))
            go_upto_region 26 with fail
            refine wp_region_cls (fun w' => Fr (fun k => k = Bo) w7 w' ∧ ∃ lv, OutAt Bo w' Bo M (usedB [] : Nat) (0 : Nat) lv []) (by kernel_rfl) (by kernel_rfl) ⟨hdr, lv7, hpd.out⟩ ?_
            iterate 6 (refine q_take ?_ (by kernel_rfl) ?_ ?_; rotate_left; (· intro w' hS; go_simp; try with_reducible rfl); (try simp only [Act.put, List.setIfInBounds_toArray, List.set_cons_zero, List.set_cons_succ]))
            (refine q_take (.string ⟨((signs l).take j1).toArray⟩) (by kernel_rfl) (fun w' hS => ?_) ?_; (· have hl := hS.1.cell HOC7.out (by show go ≠ Bo; omega); rw [HC1.out] at hl; go_simp; try with_reducible rfl); (try simp only [Act.put, List.setIfInBounds_toArray, List.set_cons_zero, List.set_cons_succ]))
            iterate 4 (refine q_take ?_ (by kernel_rfl) ?_ ?_; rotate_left; (· intro w' hS; go_simp; try with_reducible rfl); (try simp only [Act.put, List.setIfInBounds_toArray, List.set_cons_zero, List.set_cons_succ]))
            (refine q_take (.int .i64 j1) (by kernel_rfl) (fun w' hS => ?_) ?_; (· go_simp; split <;> omega); (try simp only [Act.put, List.setIfInBounds_toArray, List.set_cons_zero, List.set_cons_succ]))
            (refine q_take (.slice sa j1 sc) (by kernel_rfl) (fun w' hS => ?_) ?_; (· go_simp; intro h; omega); (try simp only [Act.put, List.setIfInBounds_toArray, List.set_cons_zero, List.set_cons_succ]))
            (refine q_take (.string ⟨((signs l).take j1).toArray⟩) (by kernel_rfl) (fun w' hS => ?_) ?_; (· have hl := HCV.out w' j1 hS.1 (by omega); go_simp; try with_reducible rfl); (try simp only [Act.put, List.setIfInBounds_toArray, List.set_cons_zero, List.set_cons_succ]))
            (refine q_take (.bool true) (by kernel_rfl) (fun w' hS => ?_) ?_; (· go_simp; try with_reducible rfl); (try simp only [Act.put, List.setIfInBounds_toArray, List.set_cons_zero, List.set_cons_succ]))
            iterate 3 (refine q_take ?_ (by kernel_rfl) ?_ ?_; rotate_left; (· intro w' hS; go_simp; try with_reducible rfl); (try simp only [Act.put, List.setIfInBounds_toArray, List.set_cons_zero, List.set_cons_succ]))
            (refine q_call ?_ ?_ (by kernel_rfl) ?_ ?_; rotate_left 2; (· intro w' hS; go_simp; first | with_reducible rfl | (constructor <;> with_reducible rfl)); (refine ⟨_, fun w' hw => (left_any Bi M bv' [] w' (HIN7.out.frame hw.1 (fun e => by have := HIB.out; omega) (fun k hk e => by have := HBV.out k hk; have := heap_lt HOUT4.out.heap; omega))).mono fun _ _ h => by obtain ⟨rfl, rfl⟩ := h; exact ⟨rfl, hw⟩, ?_⟩); (try simp only [Act.put, List.setIfInBounds_toArray, List.set_cons_zero, List.set_cons_succ]))
            iterate 10 (refine q_take ?_ (by kernel_rfl) ?_ ?_; rotate_left; (· intro w' hS; go_simp; try with_reducible rfl); (try simp only [Act.put, List.setIfInBounds_toArray, List.set_cons_zero, List.set_cons_succ]))
            (refine q_take (.string ⟨((signs l).take j2).toArray⟩) (by kernel_rfl) (fun w' hS => ?_) ?_; (· have hl := hS.1.cell HMC.out hgmB; rw [HC2.out] at hl; go_simp; try with_reducible rfl); (try simp only [Act.put, List.setIfInBounds_toArray, List.set_cons_zero, List.set_cons_succ]))
            iterate 4 (refine q_take ?_ (by kernel_rfl) ?_ ?_; rotate_left; (· intro w' hS; go_simp; try with_reducible rfl); (try simp only [Act.put, List.setIfInBounds_toArray, List.set_cons_zero, List.set_cons_succ]))
            (refine q_take (.int .i64 ((M : Int) - 1)) (by kernel_rfl) (fun w' hS => ?_) ?_; (· have hwr : IntKind.i64.wrap ((M : Int) - 1) = (M : Int) - 1 := IntWalk.i64_in _ (by omega); go_simp; try exact hwr); (try simp only [Act.put, List.setIfInBounds_toArray, List.set_cons_zero, List.set_cons_succ]))
            (refine q_take (.int .i64 j2) (by kernel_rfl) (fun w' hS => ?_) ?_; (· go_simp; split <;> omega); (try simp only [Act.put, List.setIfInBounds_toArray, List.set_cons_zero, List.set_cons_succ]))
            (refine q_take (.slice sa j2 sc) (by kernel_rfl) (fun w' hS => ?_) ?_; (· go_simp; intro h; omega); (try simp only [Act.put, List.setIfInBounds_toArray, List.set_cons_zero, List.set_cons_succ]))
            (refine q_take (.string ⟨((signs l).take j2).toArray⟩) (by kernel_rfl) (fun w' hS => ?_) ?_; (· have hl := HCV.out w' j2 hS.1 (by omega); go_simp; try with_reducible rfl); (try simp only [Act.put, List.setIfInBounds_toArray, List.set_cons_zero, List.set_cons_succ]))
            (refine q_take (.bool true) (by kernel_rfl) (fun w' hS => ?_) ?_; (· go_simp; try with_reducible rfl); (try simp only [Act.put, List.setIfInBounds_toArray, List.set_cons_zero, List.set_cons_succ]))
            iterate 3 (refine q_take ?_ (by kernel_rfl) ?_ ?_; rotate_left; (· intro w' hS; go_simp; try with_reducible rfl); (try simp only [Act.put, List.setIfInBounds_toArray, List.set_cons_zero, List.set_cons_succ]))
            (refine q_call ?_ ?_ (by kernel_rfl) ?_ ?_; rotate_left 2; (· intro w' hS; go_simp; first | with_reducible rfl | (constructor <;> with_reducible rfl)); (refine ⟨_, fun w' hw => by
              obtain ⟨hw1, lv, hw2⟩ := hw
              exact (take_any Bo Bo M 0 lv [] 9 w' hw2 (by omega) (by simp [usedB]) (by omega) (by omega) (by omega) (by have := hw1.size; have := HF7'.out.size; omega)).mono fun _ w'' h => by
                obtain ⟨ov, lv', rfl, h1, h2, h3, h4, h5, h6⟩ := h
                exact ⟨by rw [h6 rfl rfl], hw1.trans' h3, lv', h2⟩, ?_⟩); (try simp only [Act.put, List.setIfInBounds_toArray, List.set_cons_zero, List.set_cons_succ]))
            (refine q_call ?_ ?_ (by kernel_rfl) ?_ ?_; rotate_left 2; (· intro w' hS; go_simp; first | with_reducible rfl | (constructor <;> with_reducible rfl)); (refine ⟨_, fun w' hw => by
              obtain ⟨hw1, lv, hw2⟩ := hw
              exact (sameTexts_any (fun _ => False) (fun _ => False) _ _ [] [] w' ss_nil ss_nil).mono fun _ w'' h => by
                obtain ⟨rfl, n, rfl⟩ := h
                exact ⟨by simp; rfl, hw1.drewN n, lv, hw2.frame ((Fr.refl (fun _ => False) w').drewN n) not_false (fun _ _ => not_false)⟩, ?_⟩); (try simp only [Act.put, List.setIfInBounds_toArray, List.set_cons_zero, List.set_cons_succ]))
            iterate 2 (refine q_take ?_ (by kernel_rfl) ?_ ?_; rotate_left; (· intro w' hS; go_simp; try with_reducible rfl); (try simp only [Act.put, List.setIfInBounds_toArray, List.set_cons_zero, List.set_cons_succ]))
            refine q_end (fun W9 hw9 => ?_)
            have HW9 := hid (HF8.out.trans' hw9.1)
            clear hw9
            go_wp2_with fail
            go_ret
            refine ⟨rfl, (Fr.refl (fun _ => False) w).trans HW9.out (fun _ _ h => h.elim) (fun k hk e => ?_)⟩
            have h1 := HI1.out; have h2 := HIB.out
            omega
end Go.Proofs.YtlfiljebfnejbaaDoor
