/- Package frame: All. -/
import Derived.Test.YtlpbjmgpckhneaaDoorFrameRowsLaw
namespace Go.Proofs.YtlpbjmgpckhneaaDoor
open Go.RowKit

/-- Value v owns a row of byte slices, each of its own. -/
def RecOwn (base : Nat) (w : World) (v : Value) (rs : List (List UInt8)) : Prop :=
  ∃ xs, w.ownsRow base 22 1 v rs.length xs ∧ ∀ i, i < rs.length → ∃ u, xs[i]? = some u ∧ OB base w u (rs.getD i [])
theorem RecOwn.frame {base : Nat} {w w' : World} {v : Value} {rs : List (List UInt8)} (h : RecOwn base w v rs) (hf : Fr (fun _ => False) w w') : RecOwn base w' v rs := by
  obtain ⟨xs, ho, hx⟩ := h
  exact ⟨xs, hf.own ho (fun _ _ => not_false), fun i hi => by obtain ⟨u, h1, h2⟩ := hx i hi; exact ⟨u, h1, hf.own h2 (fun _ _ => not_false)⟩⟩
theorem RecOwn.nil (base : Nat) (w : World) : RecOwn base w (.slice none 0 0) [] := ⟨[], World.ownsRow_nil _ _ _ _, fun i hi => by simp at hi⟩
theorem RecOwn.bss {base : Nat} {w : World} {v : Value} {rs : List (List UInt8)} (h : RecOwn base w v rs) : Bss (fun k => base ≤ k) w v rs := by
  obtain ⟨xs, ho, hx⟩ := h
  rcases ho.2 with ⟨rfl, h0⟩ | ⟨g, cap, cur, rfl, hb, hg, h1, h2, h3, ht⟩
  · exact ⟨none, 0, by rw [h0], by omega, by simp [maxLen], fun k hk => by omega⟩
  · refine ⟨some ⟨g, 0, none⟩, cap, rfl, h1, h2, fun k hk => ?_⟩
    obtain ⟨u, e, hu⟩ := hx k hk
    refine ⟨g, 0, u, rfl, hb, ?_, OB.bs hu⟩
    rw [Nat.zero_add, cell_of_row _ _ _ _ _ _ hg]
    have : (cur.toList.take (rs.length * 1))[k]? = xs[k]? := by rw [ht]
    rw [List.getElem?_take, if_pos (by omega)] at this
    simp only [Array.getElem?_toList] at this
    rw [this, e]
theorem Tryd.info_bytes : (Tryd.prog.info? 22).map (fun i => (i.zero, i.size, i.bytes)) = some (some (.slice none 0 0), 1, 24) := by kernel_rfl

set_option maxHeartbeats 1600000 in
theorem all_any (D : Nat → Prop) (pa : Nat → Addr) (v : Value) (l : List UInt8) (ls : List (List UInt8)) (t : List UInt8) (code : Nat) (w : World) (hB : Bs D w v l) (hl : l.length ≤ 1073741824) (hE : Sents w pa)
    (hls : ∀ r ∈ ls, r.length ≤ 4194304) (he : l = recsB ls ++ t) (ht : AllEnd t code) :
    Calls Tryd.prog 22 #[v] w fun e w' => ∃ v', e = .returned (.tuple #[v', .int .i64 (recsB ls).length, errV pa code]) ∧ RecOwn w.heap.size w' v' ls ∧ Fr (fun _ => False) w w' := by
  have hB0 := hB
  obtain ⟨a, c, rfl, hlc, hcm, hk⟩ := hB
  have hll : l.length = (recsB ls).length + t.length := by rw [he, List.length_append]
  have hcount : ls.length ≤ 1073741824 := by
    have : 8 * ls.length ≤ (recsB ls).length := by
      clear hk he hls hll
      induction ls with
      | nil => simp
      | cons r ls ih => rw [recsB_cons, List.length_append, recB_len, List.length_cons]; omega
    omega
  unfold maxLen at hcm
  have HB := hid hB0; have HE := hid hE; have HLS := hid hls; have HEQ := hid he; have HT := hid ht; have HK := hid hk; have HLL := hid hll; have HCM := hid hcm; have HCO := hid hcount; have HL := hid hl
  clear hB0 hE hls he ht hk hll hcm hcount hl
  go_enter Tryd.func22, Tryd.ntmps22
  go_wp2_with fail
  go_loopw [5, 6] (fun o p wr => ∃ k : Nat, k ≤ ls.length ∧ p = .int .i64 (endB ls k) ∧ RecOwn w.heap.size wr o (ls.take k) ∧ Fr (fun _ => False) w wr) (fun _ p _ => l.length - (intOf p).toNat)
  case atStart => exact ⟨0, by omega, by rw [endB_zero]; rfl, by rw [List.take_zero]; exact RecOwn.nil _ _, Fr.refl _ _⟩
  case round =>
    obtain ⟨k, hkl, rfl, hO, hf⟩ := hrel
    have HO := hid hO; have HF := hid hf
    clear hO hf
    have hend : endB ls k ≤ (recsB ls).length := by rw [← endB_all]; exact endB_mono ls hkl
    have hll := HLL.out
    by_cases hlt : endB ls k < l.length
    · have hlen0 : 0 < l.length := by omega
      obtain ⟨b, o, rfl, _, _⟩ := HK.out 0 hlen0
      have hp := Bs.from HB.out (endB ls k) hlt
      have hdr : l.drop (endB ls k) = recsB (ls.drop k) ++ t := by
        rw [HEQ.out, recsB_split ls k, List.append_assoc, endB, List.drop_left]
      have hcc : ¬ c = endB ls k := by omega
      have hpos : (endB ls k : Int) ≤ l.length := by omega
      have hlt' : (endB ls k : Int) < l.length := by omega
      have hpl : (l.drop (endB ls k)).length ≤ 1073741824 := by have := HL.out; simp; omega
      have hcm := HCM.out
      by_cases hks : k < ls.length
      · have hrd : readB (l.drop (endB ls k)) = (ls.getD k [], (ls.getD k []).length + 8, 0) := by
          rw [hdr, drop_getD ls k [] hks, recsB_cons, List.append_assoc]
          refine read_rec _ _ (HLS.out _ ?_)
          rw [List.getD_eq_getElem?_getD, List.getElem?_eq_getElem hks]
          exact List.getElem_mem _
        have hes := endB_succ ls k hks
        have hes2 : endB ls (k + 1) ≤ (recsB ls).length := by rw [← endB_all]; exact endB_mono ls hks
        have htk := take_snoc ls k [] hks
        generalize hr : ls.getD k [] = r at *
        generalize l.drop (endB ls k) = q at *
        generalize endB ls k = p at *
        have hin : (p : Int) + (r.length + 8 : Nat) ≤ 1073741824 := by have := HL.out; omega
        have hcmI : (c : Int) ≤ 9223372036854775807 := by omega
        have HRD := hid hrd; have HP := hid hp; have HDR := hid hdr; have HES := hid hes; have HR := hid hr; have HTK := hid htk
        have HPL := hid hpl; have HE2 := hid hes2
        clear hrd hp hdr hes hr htk hll hpl hcm hes2
        go_wp2_with fail
        refine (read_any D pa _ q wr (HP.out.frame HF.out (fun _ _ => not_false)) HPL.out (HE.out.frame HF.out)).mono ?_
        rintro e w2 ⟨v2, rfl, ho2, hf2⟩
        rw [show (readB q).2.1 = r.length + 8 by rw [HRD.out], show (readB q).2.2 = 0 by rw [HRD.out]]
        replace ho2 : OB wr.heap.size w2 v2 r := by rw [HRD.out] at ho2; exact ho2
        obtain ⟨a2, c2, rfl, -⟩ := own_len ho2
        obtain ⟨xs, hxo, hxs⟩ := HO.out.frame hf2
        have HO2 := hid (own_base ho2 HF.out.size); have HF2 := hid (HF.out.trans' hf2); have HXO := hid hxo; have HXS := hid hxs
        clear ho2 hf2 hxo hxs
        have htl : (ls.take k).length = k := by simp; omega
        have hn1 : (ls.take k).length + 1 ≤ 1099511627776 := by have := HCO.out; omega
        have hown := World.ownsRow.alloc HXO.out (.cells #[.slice a2 r.length c2] 22)
        have hc1 := cell_new1 w2 (.slice a2 r.length c2) 22 (0, 0)
        have hbs : w.heap.size ≤ (w2.alloc (.cells #[.slice a2 r.length c2] 22)).heap.size := by have := HF2.out.size; simp; omega
        have hv2 : (Value.slice a2 r.length c2).oneCell' = true := rfl
        have HOW := hid hown; have HC1 := hid hc1; have HBS := hid hbs; have HTL := hid htl; have HV2 := hid hv2; have HN1 := hid hn1
        clear hown hc1 hbs htl hv2 hn1
        unfold errV
        rw [if_pos rfl]
        go_wp2_with (at_builtin; go_must (refine wpList_append1 rfl (.tmp 27) (.tmp 29) 36 rfl 22 (.slice none 0 0) 24 Tryd.underlying36 Tryd.info_bytes rfl _ rfl w.heap.size (ls.take k).length xs HOW.out w2.heap.size 1 (.slice a2 r.length c2) rfl HC1.out HV2.out HN1.out (by decide) HBS.out ?_))
        intro g cap w3 ho3 hf3 _
        have hR3 : RecOwn w.heap.size w3 (.slice (some ⟨g, 0, none⟩) (k + 1) cap) (ls.take (k + 1)) := by
          refine ⟨xs ++ [.slice a2 r.length c2], ?_, ?_⟩
          · rw [HTK.out, List.length_append, HTL.out]
            exact ho3
          · have hdis : ∀ u q, OB w.heap.size w2 u q → OB w.heap.size w3 u q := fun u q hu =>
              hf3.own (World.ownsRow.alloc hu _) (fun k hk => own_ne (World.ownsRow.alloc hu _) HOW.out (by decide) k hk)
            intro i hi
            rw [HTK.out, List.length_append, HTL.out] at hi
            rw [HTK.out]
            have hxl : xs.length = (ls.take k).length := by have := HXO.out.1; omega
            by_cases hik : i < k
            · obtain ⟨u, e, hu⟩ := HXS.out i (by rw [HTL.out]; exact hik)
              refine ⟨u, by rw [List.getElem?_append_left (by rw [hxl, HTL.out]; exact hik)]; exact e, ?_⟩
              have : (ls.take k ++ [r]).getD i [] = (ls.take k).getD i [] := by
                simp only [List.getD]
                rw [List.getElem?_append_left (by rw [HTL.out]; exact hik)]
              rw [this]
              exact hdis _ _ hu
            · obtain rfl : i = k := by simp at hi; omega
              refine ⟨.slice a2 r.length c2, by rw [List.getElem?_append_right (by rw [hxl, HTL.out]; exact Nat.le_refl _), hxl, HTL.out]; simp, ?_⟩
              have : (ls.take i ++ [r]).getD i [] = r := by
                simp only [List.getD]
                rw [List.getElem?_append_right (by rw [HTL.out]; exact Nat.le_refl _), HTL.out]
                simp
              rw [this]
              exact hdis _ _ HO2.out
        have hF3 : Fr (fun _ => False) w w3 := (HF2.out.alloc (.cells #[.slice a2 r.length c2] 22)).trans hf3 (fun _ _ h => h) (fun x hx e => by
          have := HXO.out.lt x e.symm
          omega)
        have HR3 := hid hR3; have HF3 := hid hF3
        clear ho3 hf3 hR3 hF3
        go_wp2_with fail
        go_roundw
        case rel => exact ⟨k + 1, by omega, by rw [HES.out]; go_num, HR3.out, HF3.out⟩
        case measure => simp [intOf]; omega
      · obtain rfl : k = ls.length := by omega
        have hcode : (readB (l.drop (endB ls ls.length))).2.2 = code ∧ code ≠ 0 := by
          rcases HT.out with ⟨h0, _⟩ | ⟨_, h1, h2⟩
          · rw [h0] at hll
            simp at hll
            rw [endB_all] at hlt
            omega
          · rw [hdr, List.drop_length]
            exact ⟨h1, h2⟩
        have hea := endB_all ls
        generalize l.drop (endB ls ls.length) = q at *
        generalize endB ls ls.length = p at *
        have HP := hid hp; have HPL := hid hpl; have HC := hid hcode; have HEA := hid hea
        have hcmI : (c : Int) ≤ 9223372036854775807 := by omega
        clear hp hpl hcode hdr hea hcm hll
        go_wp2_with fail
        refine (read_any D pa _ q wr (HP.out.frame HF.out (fun _ _ => not_false)) HPL.out (HE.out.frame HF.out)).mono ?_
        rintro e w2 ⟨v2, rfl, -, hf2⟩
        rw [HC.out.1]
        have hO2 := HO.out.frame hf2
        rw [List.take_length] at hO2
        have HO2 := hid hO2; have HF2 := hid (HF.out.trans' hf2)
        clear hf2 hO2
        have hev : ∃ a, errV pa code = .iface 79 (.pointer (some a)) := ⟨_, by unfold errV; rw [if_neg HC.out.2]⟩
        obtain ⟨ea, hev⟩ := hev
        rw [hev]
        have HEV := hid hev
        clear hev
        go_wp2_with fail
        go_ret3
        exact ⟨_, by rw [HEV.out, ← HEA.out]; rfl, HO2.out, HF2.out⟩
    · obtain rfl : k = ls.length := by
        rcases Nat.lt_or_eq_of_le hkl with h | h
        · have := endB_succ ls k h
          have := endB_mono ls (show k + 1 ≤ ls.length from h)
          rw [endB_all] at this
          omega
        · exact h
      have hc0 : code = 0 := by
        rcases HT.out with ⟨_, h1⟩ | ⟨h1, _⟩
        · exact h1
        · exfalso
          apply h1
          rw [endB_all] at hlt
          exact List.eq_nil_of_length_eq_zero (by omega)
      have hea := endB_all ls
      subst hc0
      have hO2 := HO.out
      rw [List.take_length] at hO2
      generalize endB ls ls.length = p at *
      have hlt' : ¬ (p : Int) < l.length := by omega
      have HO2 := hid hO2; have HEA := hid hea
      clear hO2 hea hll hend
      go_wp2_with fail
      go_ret3
      exact ⟨_, by rw [← HEA.out]; rfl, HO2.out, HF.out⟩
end Go.Proofs.YtlpbjmgpckhneaaDoor
