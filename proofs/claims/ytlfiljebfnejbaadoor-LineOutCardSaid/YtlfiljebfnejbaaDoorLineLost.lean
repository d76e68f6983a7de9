/- The statement LineLost, walked. -/
import Derived.Test.YtlfiljebfnejbaaDoorOutTake
import Derived.Test.YtlfiljebfnejbaaDoorLineFirst
import Derived.Test.YtlfiljebfnejbaaDoorNumber
namespace Go.Proofs.YtlfiljebfnejbaaDoor
open Go.RowKit

/-- From the j-th line on they have room, and from none before it. -/
def Held (M : Nat) (A : List (List UInt8)) (j : Nat) : Prop := j ≤ A.length ∧ usedB (A.drop j) ≤ M ∧ ∀ i, i < j → M < usedB (A.drop i)
theorem Held.eq {M : Nat} {A : List (List UInt8)} {i j : Nat} (h1 : Held M A i) (h2 : Held M A j) : i = j := by
  rcases Nat.lt_trichotomy i j with h | h | h
  · have := h2.2.2 i h; have := h1.2.1; omega
  · exact h
  · have := h1.2.2 j h; have := h2.2.1; omega
theorem usedB_mono (A : List (List UInt8)) (i j : Nat) (h : i ≤ j) : usedB (A.drop j) ≤ usedB (A.drop i) := by
  have := usedB_drop (A.drop i) (j - i)
  rwa [List.drop_drop, show i + (j - i) = j by omega] at this
theorem Held.of {M : Nat} {A : List (List UInt8)} {j : Nat} (h1 : j ≤ A.length) (h2 : usedB (A.drop j) ≤ M) (h3 : j = 0 ∨ M < usedB (A.drop (j - 1))) : Held M A j :=
  ⟨h1, h2, fun i hi => by
    rcases h3 with h3 | h3
    · omega
    · exact Nat.lt_of_lt_of_le h3 (usedB_mono A i (j - 1) (by omega))⟩
theorem dropTo_held (M : Nat) (A : List (List UInt8)) : ∀ (n j : Nat), j + n = A.length → (∀ i, i < j → M < usedB (A.drop i)) → ∃ j', Held M A j' ∧ dropTo M (A.drop j) j = (A.drop j', j') := by
  intro n
  induction n with
  | zero =>
    intro j hj hb
    refine ⟨j, ⟨by omega, by rw [List.drop_of_length_le (by omega)]; exact Nat.zero_le _, hb⟩, ?_⟩
    rw [List.drop_of_length_le (by omega)]
    rfl
  | succ n ih =>
    intro j hj hb
    have e : A.drop j = A[j]'(by omega) :: A.drop (j + 1) := List.drop_eq_getElem_cons (by omega)
    by_cases h : M < usedB (A.drop j)
    · obtain ⟨j', hh, he⟩ := ih (j + 1) (by omega) (fun i hi => by
        by_cases hij : i = j
        · subst hij; exact h
        · exact hb i (by omega))
      refine ⟨j', hh, ?_⟩
      rw [e] at h ⊢
      unfold dropTo
      rw [if_pos h, he]
    · refine ⟨j, ⟨by omega, by omega, hb⟩, ?_⟩
      rw [e] at h ⊢
      unfold dropTo
      rw [if_neg h]
theorem Held.snoc {M : Nat} {A : List (List UInt8)} {j : Nat} (h : Held M A j) (x : List UInt8) : ∃ j', Held M (A ++ [x]) j' ∧ dropTo M (A.drop j ++ [x]) j = ((A ++ [x]).drop j', j') := by
  have e : A.drop j ++ [x] = (A ++ [x]).drop j := by rw [List.drop_append_of_le_length h.1]
  rw [e]
  refine dropTo_held M (A ++ [x]) ((A ++ [x]).length - j) j (by have := h.1; simp; omega) (fun i hi => ?_)
  have h1 := h.2.2 i hi
  rw [List.drop_append_of_le_length (by have := h.1; omega), usedB_app]
  omega

def toNat9 (x : Int) : Nat := (x % 9).toNat
theorem toNat9_eq (x : Int) : (toNat9 x : Int) = x % 9 := by
  unfold toNat9
  have := Int.emod_nonneg x (show (9 : Int) ≠ 0 by omega)
  omega
theorem toNat9_lt (x : Int) : toNat9 x ≤ 8 := by
  have := toNat9_eq x
  have := Int.emod_lt_of_pos x (show (0 : Int) < 9 by omega)
  omega
/-- The i-th line: a letter, as often as asked. -/
def letter (i : Nat) : UInt8 := UInt8.ofNat (97 + i % 26)
theorem letter_nat (i : Nat) : (letter i).toNat = 97 + i % 26 := by
  have : 97 + i % 26 < 256 := by omega
  simp [letter, Nat.mod_eq_of_lt this]
theorem letter_pln (i : Nat) : pln (letter i).toNat = true := by
  rw [letter_nat]
  unfold pln
  simp
  omega
theorem clean_rep (m : Nat) (c : UInt8) (hc : pln c.toNat = true) : ∀ k, k ≤ m → clean m (List.replicate k c) = List.replicate k c := by
  intro k
  induction k with
  | zero => intro _; rfl
  | succ k ih =>
    intro h
    have e : List.replicate (k + 1) c = List.replicate k c ++ [c] := by rw [List.replicate_succ']
    rw [e]
    unfold clean
    rw [List.foldl_append]
    have h2 := ih (by omega)
    unfold clean at h2
    rw [h2]
    simp [cleanStep, hc]
    omega
/-- The lines, told. -/
def lineAt (l : List Int) (i : Nat) : List UInt8 := List.replicate (toNat9 (l.getD i 0)) (letter i)
def linesTo (l : List Int) (i : Nat) : List (List UInt8) := (List.range i).map (lineAt l)
theorem linesTo_succ (l : List Int) (i : Nat) : linesTo l (i + 1) = linesTo l i ++ [lineAt l i] := by simp [linesTo, List.range_succ]
theorem linesTo_len (l : List Int) (i : Nat) : (linesTo l i).length = i := by simp [linesTo]

theorem Ss.sub {D : Nat → Prop} {w : World} {a a' : Option Addr} {c c' len' : Nat} {l : List ByteArray} (h : Ss D w (.slice a l.length c) l) (i : Nat) (hi : i ≤ l.length) (hlen : len' = l.length - i) (hc : c' = c - i)
    (ha : a' = if c = i then a else a.map fun x => x.add i) : Ss D w (.slice a' len' c') (l.drop i) := by
  obtain ⟨a0, c0, e, h1, h2, hk⟩ := h
  simp only [Value.slice.injEq] at e
  obtain ⟨rfl, _, rfl⟩ := e
  have hL : (l.drop i).length = len' := by simp; omega
  refine ⟨a', c', by rw [hL], by omega, by omega, fun k hlt => ?_⟩
  rw [hL] at hlt
  obtain ⟨b, o, rfl, hD, hc1⟩ := hk (i + k) (by omega)
  rw [if_neg (by omega)] at ha
  have e2 : (⟨b, o, none⟩ : Addr).add i = ⟨b, o + i, none⟩ := by unfold Addr.add; split <;> simp_all
  simp only [Option.map_some, e2] at ha
  refine ⟨b, o + i, ha, hD, ?_⟩
  rw [Nat.add_assoc, hc1]
  simp only [List.getD, List.getElem?_drop]
theorem lines_small (l : List Int) (n i : Nat) : ((linesTo l n).getD i []).length ≤ 8 := by
  by_cases h : i < n
  · have : (linesTo l n).getD i [] = lineAt l i := by simp [linesTo, List.getD, h]
    rw [this]
    simp [lineAt]
    exact toNat9_lt _
  · have : (linesTo l n).getD i [] = [] := by simp [linesTo, List.getD, h]
    rw [this]
    exact Nat.zero_le _
theorem conv_letter (w : World) (k : Nat) : Sem.run Tryd.prog (convert 22 9 (.slice (some ⟨w.heap.size, 0, none⟩) 1 1)) (w.alloc (.cells #[.int .u8 (97 + (k : Int) % 26)] 5)) = .ok (.string ⟨#[letter k]⟩) (w.alloc (.cells #[.int .u8 (97 + (k : Int) % 26)] 5)) := by
  have h1 : 97 + (k : Int) % 26 = ((letter k).toNat : Int) := by rw [letter_nat]; omega
  rw [h1]
  have hb : Bs (fun _ => True) (w.alloc (.cells #[.int .u8 (letter k).toNat] 5)) (.slice (some ⟨w.heap.size, 0, none⟩) 1 1) [letter k] :=
    ⟨_, _, rfl, by simp, by simp [maxLen], fun i hi => ⟨w.heap.size, 0, rfl, trivial, by
      match i, hi with
      | 0, _ => exact cell_new1 _ _ _ _⟩⟩
  exact conv_bytes hb 22 5 9 Tryd.underlying22 Tryd.underlying5 Tryd.underlying9

set_option maxRecDepth 100000 in
set_option maxHeartbeats 1600000 in
theorem lineLost_any (v : Value) (l : List Int) (mi : Int) (m1 : -9223372036854775808 ≤ mi) (m2 : mi ≤ 9223372036854775807) (w : World)
    (hB : Sl (fun _ => True) w v l.length (fun k u => u = .int .i64 (l.getD k 0) ∧ -9223372036854775808 ≤ l.getD k 0 ∧ l.getD k 0 ≤ 9223372036854775807)) :
    Calls Tryd.prog 5 #[v, .int .i64 mi] w fun e w' => e = .returned (.bool true) ∧ Fr (fun _ => False) w w' := by
  obtain ⟨a, c, rfl, hlc, hcm, hk⟩ := hB
  have HK := hid hk; have HM1 := hid m1; have HM2 := hid m2
  clear hk hlc hcm m1 m2
  go_enter Tryd.func5, Tryd.ntmps5
  go_wp2_with fail
  refine (first_any _).mono ?_
  rintro e w1 ⟨rfl, hf⟩
  have HF := hid hf
  clear hf
  go_wp2_with fail
  refine (number_any mi 200 w1 (by omega) (by omega) HM1.out HM2.out).mono ?_
  rintro e w2 ⟨rfl, rfl⟩
  obtain ⟨M, hM, hMlo, hMhi⟩ : ∃ M : Nat, mi % 200 + 10 = M ∧ 10 ≤ M ∧ (M : Int) ≤ 209 := by
    have g1 := Int.emod_nonneg mi (show (200 : Int) ≠ 0 by omega)
    have g2 := Int.emod_lt_of_pos mi (show (0 : Int) < 200 by omega)
    exact ⟨(mi % 200).toNat + 10, by omega, by omega, by omega⟩
  by_cases h40 : 40 < l.length
  · have h' : decide ((40 : Int) < l.length) = true := by simp; omega
    go_wp2_with fail
    go_ret
    exact ⟨rfl, HF.out⟩
  · have h' : decide ((40 : Int) < l.length) = false := by simp; omega
    have hlI : (l.length : Int) ≤ 40 := by omega
    go_wp2_with fail
    refine (newOut_any _ _).mono ?_
    rintro e w3 ⟨rfl, hout, hf3⟩
    have hbn : ∀ o, bnd (M : Int) o = M := fun o => by unfold bnd; rw [if_neg (by omega), if_neg (by omega)]
    rw [hbn] at hout
    have hso := heap_lt hout.heap
    have hs1 := HF.out.size
    have HF3 := hid (HF.out.trans' hf3); have HOUT := hid hout; have HSO := hid hso; have HS1 := hid hs1
    generalize w1.heap.size = Bo at *
    clear hout hf3 hso hbn hs1 HF h' h40 hM
    go_wp2_with fail
    go_loopw [7, 8] (fun v i wr => ∃ k j : Nat, ∃ lv, k ≤ l.length ∧ i = .int .i64 k ∧ Hid (Held M (linesTo l k) j) ∧ Hid (OutAt Bo wr Bo M (usedB ((linesTo l k).drop j) : Nat) j lv ((linesTo l k).drop j)) ∧ Hid (wr.ownsRow Bo 9 1 v (linesTo l k).length (sV (txt (linesTo l k)))) ∧ Hid (Fr (fun _ => False) w wr) ∧ Hid (∀ q, lv.ownBlock = some q → ¬ some q = v.ownBlock)) (fun _ i _ => l.length - (intOf i).toNat)
    case atStart => exact ⟨0, 0, _, Nat.zero_le _, rfl, hid ⟨Nat.le_refl _, by simp [linesTo, usedB], fun i hi => by omega⟩, hid HOUT.out, hid (World.ownsRow_nil _ _ _ _), HF3, hid (fun q h => by cases h)⟩
    case round =>
      obtain ⟨k, j, lv, hkl, rfl, hHD, hO, hall, hf, hne⟩ := hrel
      by_cases hlt : k < l.length
      · obtain ⟨b0, o0, u0, rfl, -, hcw, rfl, hx1, hx2⟩ := HK.out k hlt
        have hcr := hf.out.cell hcw not_false
        have hlz : lineAt l k = List.replicate (toNat9 (l.getD k 0)) (letter k) := rfl
        obtain ⟨x, hx⟩ : ∃ x, l.getD k 0 = x := ⟨_, rfl⟩
        rw [hx] at hcr hx1 hx2 hlz
        have HLZ := hid hlz
        clear hlz hx hcw
        have h8 := toNat9_lt x
        have hN := toNat9_eq x
        generalize toNat9 x = N at *
        have hN8 : (N : Int) ≤ 8 := by omega
        have HN := hid hN
        clear hN
        go_wp2_with fail
        obtain ⟨wo, rfl⟩ : ∃ wo : World, wo = wr := ⟨_, rfl⟩
        go_loopw [9, 10] (fun v i wr => ∃ q : Nat, q ≤ N ∧ i = .int .i64 q ∧ v = .string ⟨Array.replicate q (letter k)⟩ ∧ Hid (Fr (fun _ => False) wo wr)) (fun _ i _ => N - (intOf i).toNat)
        case atStart => exact ⟨0, Nat.zero_le _, rfl, rfl, hid (Fr.refl _ _)⟩
        case round =>
          obtain ⟨q, hqN, rfl, rfl, hfq⟩ := hrel
          have hcr2 := hfq.out.cell hcr not_false
          by_cases hlq : q < N
          · have hlq' : (q : Int) < N := by omega
            have hcv := conv_letter wr k
            have hst : (⟨Array.replicate q (letter k)⟩ : ByteArray) ++ ⟨#[letter k]⟩ = ⟨Array.replicate (q + 1) (letter k)⟩ := ByteArray.ext (by simp [Array.replicate_succ])
            have hsz : (ByteArray.mk (Array.replicate q (letter k))).size = q := by simp [ByteArray.size]
            have hsz1 : (ByteArray.mk #[letter k]).size = 1 := rfl
            have HST := hid hst
            clear hst
            go_wp2_with fail
            refine (number_any x 9 _ (by omega) (by omega) hx1 hx2).mono ?_
            rintro e w5 ⟨rfl, rfl⟩
            rw [← HN.out]
            have hst := HST.out
            go_wp2_with fail
            go_roundw
            case rel => exact ⟨q + 1, by omega, by go_num, rfl, hid (hfq.out.alloc _)⟩
            case measure => simp [intOf]; omega
          · obtain rfl : q = N := by omega
            go_wp2_with fail
            refine (number_any x 9 _ (by omega) (by omega) hx1 hx2).mono ?_
            rintro e w5 ⟨rfl, rfl⟩
            rw [← HN.out]
            have hO2 := hO.out.frame hfq.out not_false (fun _ _ => not_false)
            have ha2 := hfq.out.own hall.out (fun _ _ => not_false)
            have HO2 := hid hO2; have HA2 := hid ha2; have HF2 := hid (hf.out.trans' hfq.out)
            clear hO2 ha2
            go_wp2_with fail
            have hjk : j ≤ k := by have := hHD.out.1; rwa [linesTo_len] at this
            have hbw : Bo ≤ wr.heap.size := by have := heap_lt HO2.out.heap; omega
            refine (put_any Bo Bo M j lv _ ⟨Array.replicate q (letter k)⟩ wr HO2.out (by omega) (by omega) hHD.out.2.1 (by omega) (by simp [ByteArray.size]; omega) hbw).mono ?_
            rintro e w6 ⟨rfl, lv6, hp6, hf6, hlv6⟩
            have hcl : clean (M - 1) (ByteArray.mk (Array.replicate q (letter k))).data.toList = lineAt l k := by
              rw [HLZ.out]
              simp only [Array.toList_replicate]
              exact clean_rep (M - 1) (letter k) (letter_pln k) q (by omega)
            obtain ⟨j', hh', hd'⟩ := hHD.out.snoc (lineAt l k)
            rw [hcl, hd', ← linesTo_succ] at hp6
            rw [← linesTo_succ] at hh'
            have HP6 : Hid (OutAt Bo w6 Bo M (usedB ((linesTo l (k + 1)).drop j') : Nat) (j' : Nat) lv6 ((linesTo l (k + 1)).drop j')) := hid hp6
            have HH := hid hh'
            have ha6 := hf6.own HA2.out (fun k hk e => by
              rcases e with e | e
              · exact own_ne_cells HA2.out HO2.out.heap (by decide) k hk e
              · exact hne.out k e.symm hk.symm)
            have HF6 : Hid (Fr (fun _ => False) w w6) := hid (HF2.out.trans hf6 (fun _ _ h => h) (fun k hk e => by
              have h1 := HS1.out
              rcases e with e | e
              · omega
              · have := (HO2.out.own.lt k e.symm).1; omega))
            have hne6 : ∀ q, lv6.ownBlock = some q → ¬ some q = u7.ownBlock := fun q hq e => by
              rcases hlv6 q hq with h | h
              · exact hne.out q h e
              · have := (HA2.out.lt q e.symm).2; omega
            have HNE6 := hid hne6
            have hown := World.ownsRow.alloc ha6 (.cells #[.string ⟨Array.replicate q (letter k)⟩] 9)
            have hce := cell_new1 w6 (.string ⟨Array.replicate q (letter k)⟩) 9 (0, 0)
            have hbs : Bo ≤ (w6.alloc (.cells #[.string ⟨Array.replicate q (letter k)⟩] 9)).heap.size := by have := hf6.size; simp; omega
            have hn1 : (linesTo l k).length + 1 ≤ 1099511627776 := by rw [linesTo_len]; omega
            have HOWA := hid hown; have HCE := hid hce; have HBS := hid hbs; have HN1 := hid hn1
            clear hcl hh' hd' hp6 ha6 hf6 hlv6 hne6 hown hce hbs hn1 hO hall hne
            go_wp2_with (at_builtin; go_must (refine wpList_append1 rfl (.tmp 58) (.tmp 60) 29 rfl 9 (.string ByteArray.empty) 16 Tryd.underlying29 Tryd.info_str rfl _ rfl Bo (linesTo l k).length (sV (txt (linesTo l k))) HOWA.out w6.heap.size 1 (.string ⟨Array.replicate q (letter k)⟩) rfl HCE.out rfl HN1.out (by decide) HBS.out ?_))
            intro g cap w7 ho7 hf7 hg7
            have hfa : Fr (fun q => some q = u7.ownBlock) w6 w7 := ((Fr.refl (fun _ => False) w6).alloc (.cells #[.string ⟨Array.replicate q (letter k)⟩] 9)).trans hf7 (fun _ _ h => h.elim) (fun _ _ h => h)
            have hlv6 := HP6.out.own.lt
            have hO7 := HP6.out.frame hfa (fun e => own_ne_cells HOWA.out (((Fr.refl (fun _ => False) w6).alloc (.cells #[.string ⟨Array.replicate q (letter k)⟩] 9)).heap HP6.out.heap not_false) (by decide) Bo e.symm rfl) (fun q hq => HNE6.out q hq)
            have hF7 : Fr (fun _ => False) w w7 := HF6.out.trans hfa (fun _ _ h => h) (fun q hq e => by
              have := (HOWA.out.lt q e.symm).1
              have := HS1.out
              omega)
            have hA7 : w7.ownsRow Bo 9 1 (.slice (some ⟨g, 0, none⟩) ((linesTo l k).length + 1) cap) (linesTo l (k + 1)).length (sV (txt (linesTo l (k + 1)))) := by
              rw [linesTo_succ, HLZ.out]
              simpa [sV, txt] using ho7
            have hN7 : ∀ q, lv6.ownBlock = some q → ¬ some q = some g := fun q' hq e => by
              obtain rfl : q' = g := by simpa using e
              rcases hg7 with h | h
              · exact HNE6.out q' hq h.symm
              · have := (hlv6 q' hq).2
                first | omega | (simp at h; omega)
            have HO7 := hid hO7; have HF7 := hid hF7; have HA7 := hid hA7; have HN7 := hid hN7
            clear hfa hlv6 hO7 hF7 hA7 hN7 ho7 hf7 hg7
            go_wp2_with fail
            go_roundw
            case rel => exact ⟨k + 1, j', lv6, by omega, by go_num, HH, HO7, HA7, HF7, HN7⟩
            case measure => simp [intOf]; omega
      · obtain rfl : k = l.length := by omega
        have hAl := linesTo_len l l.length
        have HAX := hid (lines_small l l.length)
        generalize linesTo l l.length = A at *
        have hall2 := hall.out
        obtain ⟨a7, c7, rfl, h71, h72, h7k⟩ := Ss.own (l := txt A) (by simpa [txt] using hall2)
        have htl : (txt A).length = A.length := by simp [txt]
        rw [htl] at h71 h7k
        have H7 := hid h7k; have HNE := hne
        have hAI : (A.length : Int) ≤ 40 := by omega
        have hHL := hHD.out.1
        clear h7k hall2 h72
        rw [htl]
        go_wp2_with fail
        obtain ⟨wo, rfl⟩ : ∃ wo : World, wo = wr := ⟨_, rfl⟩
        go_loopw [11, 12] (fun v i wr => ∃ f : Nat, f ≤ A.length ∧ i = .int .i64 f ∧ v = .int .i64 (usedB (A.drop f) : Nat) ∧ usedB (A.drop f) ≤ M ∧ wo = wr) (fun _ i _ => (intOf i).toNat)
        case atStart => exact ⟨A.length, Nat.le_refl _, by rw [hAl], by simp [usedB], by simp [usedB], rfl⟩
        case round =>
          obtain ⟨f, hfl, rfl, rfl, hfM, rfl⟩ := hrel
          have hsI : (usedB (A.drop f) : Int) ≤ 209 := by omega
          have hH : (0 < f ∧ usedB (A.drop f) + (A.getD (f - 1) []).length + 1 ≤ M) ∨ (Held M A f ∧ f = 0) ∨ (Held M A f ∧ 0 < f ∧ ¬ usedB (A.drop f) + (A.getD (f - 1) []).length + 1 ≤ M) := by
            by_cases h1 : 0 < f
            · by_cases h2 : usedB (A.drop f) + (A.getD (f - 1) []).length + 1 ≤ M
              · exact .inl ⟨h1, h2⟩
              · refine .inr (.inr ⟨Held.of hfl hfM (.inr ?_), h1, h2⟩)
                have : A.drop (f - 1) = A.getD (f - 1) [] :: A.drop f := by
                  rw [List.drop_eq_getElem_cons (show f - 1 < A.length by omega), show f - 1 + 1 = f by omega]
                  simp [List.getD, show f - 1 < A.length by omega]
                rw [this, usedB_cons]
                omega
            · exact .inr (.inl ⟨Held.of hfl hfM (.inl (by omega)), by omega⟩)
          rcases hH with ⟨hf0, hfit⟩ | ⟨hH, hf0⟩ | ⟨hH, hf0, hfit⟩
          · have hf0' : (0 : Int) < f := by omega
            obtain ⟨b7, o7, rfl, -, hc7⟩ := H7.out (f - 1) (by omega)
            have hgx : (txt A).getD (f - 1) ByteArray.empty = ⟨(A.getD (f - 1) []).toArray⟩ := by simp [txt, List.getD, show f - 1 < A.length by omega]
            rw [hgx] at hc7
            have hud : usedB (A.drop (f - 1)) = (A.getD (f - 1) []).length + 1 + usedB (A.drop f) := by
              have : A.drop (f - 1) = A.getD (f - 1) [] :: A.drop f := by
                rw [List.drop_eq_getElem_cons (show f - 1 < A.length by omega), show f - 1 + 1 = f by omega]
                simp [List.getD, show f - 1 < A.length by omega]
              rw [this, usedB_cons]
            have hxl := HAX.out (f - 1)
            generalize A.getD (f - 1) [] = y at *
            have hys : (ByteArray.mk y.toArray).size = y.length := by simp [ByteArray.size]
            obtain ⟨f', rfl⟩ : ∃ f', f = f' + 1 := ⟨f - 1, by omega⟩
            have hf1 : ((f' + 1 : Nat) : Int) - 1 = f' := by omega
            rw [Nat.add_sub_cancel] at hc7 hud
            have HUD := hid hud
            clear hgx hud
            have hle' : (usedB (A.drop (f' + 1)) : Int) + y.length + 1 ≤ M := by omega
            go_wp2_with fail
            go_roundw
            case rel => exact ⟨f', by omega, rfl, by congr 1; have := HUD.out; omega, by have := HUD.out; omega, trivial⟩
            case measure => simp [intOf]
          all_goals
            obtain rfl : j = f := hHD.out.eq hH
            have hjI : (j : Int) ≤ 40 := by omega
          · subst hf0
            go_wp2_with fail
            refine (lost_any hO.out).mono ?_
            rintro e w8 ⟨rfl, rfl⟩
            go_wp2_with fail
            refine (used_any hO.out).mono ?_
            rintro e w8 ⟨rfl, rfl⟩
            go_wp2_with fail
            have hdd : (A.drop 0).drop 1000 = [] := List.drop_of_length_le (by simp; omega)
            have htk : (A.drop 0).take 1000 = A.drop 0 := List.take_of_length_le (by simp; omega)
            have hbw : Bo ≤ wo.heap.size := by have := heap_lt hO.out.heap; omega
            refine (take_any Bo Bo M 0 lv (A.drop 0) 1000 wo hO.out (by omega) hfM (by omega) (by omega) (by omega) hbw).mono ?_
            rintro e w9 ⟨ov, lv9, rfl, hov, hp9, hf9, hl9, hd9, -⟩
            rw [hdd] at hp9
            have htB : takeB 0 1000 (A.drop 0) = (if 0 < 0 then [lostB 0] else []) ++ A.drop 0 := by unfold takeB; rw [htk]
            have hss := Ss.own (l := txt (takeB 0 1000 (A.drop 0))) (by simpa [txt] using hov)
            have hall9 := hf9.own hall.out (fun k hk e => by
              subst e
              exact own_ne_cells hall.out hO.out.heap (by decide) _ hk rfl)
            have hss7 := Ss.own (l := txt A) (by simpa [txt] using hall9)
            rw [htB, if_neg (by omega), List.nil_append, List.drop_zero] at hss
            rw [hAl] at hss7
            have HSS := hid hss; have HS7 := hid hss7; have HP9 := hid hp9; have HF9 := hid hf9
            have hpd := hid (hp9.frame (Fr.refl (fun _ => False) w9).drew not_false (fun _ _ => not_false))
            clear hss hss7 hp9 hf9 hall9 hdd htk
            go_wp2_with fail
            refine (sameTexts_any _ _ _ _ (txt A) (txt A) w9 HSS.out HS7.out).mono ?_
            rintro e w10 ⟨rfl, n, rfl⟩
            simp only [decide_true]
            have P10 : OutAt Bo (w9.drewN n) Bo M (usedB [] : Nat) (0 : Nat) lv9 [] := HP9.out.frame ((Fr.refl (fun _ => False) w9).drewN n) not_false (fun _ _ => not_false)
            have F10 := HF9.out.trans' ((Fr.refl (fun k => k = Bo) w9).drewN n)
            generalize w9.drewN n = w10 at *
            have HP10 := hid P10; have HF10 := hid F10
            clear P10 F10
            go_wp2_with fail
            refine (lost_any HP10.out).mono ?_
            rintro e w8 ⟨rfl, rfl⟩
            go_wp2_with fail
            refine (used_any HP10.out).mono ?_
            rintro e w8 ⟨rfl, rfl⟩
            go_wp2_with fail
            refine (take_any Bo Bo M 0 lv9 [] 5 w10 HP10.out (by omega) (by simp [usedB]) (by omega) (by omega) (by omega) (by have := HF10.out.size; omega)).mono ?_
            rintro e w11 ⟨ov2, lv11, rfl, -, -, hf11, -, -, hnil⟩
            have hnil := hnil rfl rfl
            subst hnil
            go_wp2_with fail
            go_ret
            refine ⟨rfl, hf.out.trans (HF10.out.trans' hf11) (fun _ _ h => h) (fun k hk e => ?_)⟩
            have := HS1.out
            omega
          · have hf0' : (0 : Int) < j := by omega
            obtain ⟨b7, o7, rfl, -, hc7⟩ := H7.out (j - 1) (by omega)
            have hgx : (txt A).getD (j - 1) ByteArray.empty = ⟨(A.getD (j - 1) []).toArray⟩ := by simp [txt, List.getD, show j - 1 < A.length by omega]
            rw [hgx] at hc7
            have hxl := HAX.out (j - 1)
            generalize A.getD (j - 1) [] = y at *
            have hys : (ByteArray.mk y.toArray).size = y.length := by simp [ByteArray.size]
            have hf1 : ((j - 1 : Nat) : Int) = (j : Int) - 1 := by omega
            have hle' : ¬ (usedB (A.drop j) : Int) + y.length + 1 ≤ M := by omega
            clear hgx
            go_wp2_with fail
            refine (lost_any hO.out).mono ?_
            rintro e w8 ⟨rfl, rfl⟩
            go_wp2_with fail
            refine (used_any hO.out).mono ?_
            rintro e w8 ⟨rfl, rfl⟩
            go_wp2_with fail
            have hdd : (A.drop j).drop 1000 = [] := List.drop_of_length_le (by simp; omega)
            have htk : (A.drop j).take 1000 = A.drop j := List.take_of_length_le (by simp; omega)
            have hjlt : j < A.length := by
              refine Nat.lt_of_not_le (fun hcon => ?_)
              have h1 := hH.2.2 (A.length - 1) (by omega)
              have : A.drop (A.length - 1) = [A.getD (A.length - 1) []] := by
                rw [List.drop_eq_getElem_cons (show A.length - 1 < A.length by omega), List.drop_of_length_le (by omega)]
                simp [List.getD, show A.length - 1 < A.length by omega]
              have h2 := HAX.out (A.length - 1)
              rw [this, usedB_cons] at h1
              simp [usedB] at h1 h2
              omega
            have hbw : Bo ≤ wo.heap.size := by have := heap_lt hO.out.heap; omega
            refine (take_any Bo Bo M j lv (A.drop j) 1000 wo hO.out (by omega) hfM (by omega) (by omega) (by omega) hbw).mono ?_
            rintro e w9 ⟨ov, lv9, rfl, hov, hp9, hf9, hl9, hd9, -⟩
            rw [hdd] at hp9
            have htB : takeB j 1000 (A.drop j) = (if 0 < j then [lostB j] else []) ++ A.drop j := by unfold takeB; rw [htk]
            have hss := Ss.own (l := txt (takeB j 1000 (A.drop j))) (by simpa [txt] using hov)
            have hall9 := hf9.own hall.out (fun k hk e => by
              subst e
              exact own_ne_cells hall.out hO.out.heap (by decide) _ hk rfl)
            have hss7 := Ss.own (l := txt A) (by simpa [txt] using hall9)
            rw [htB] at hss
            rw [hAl] at hss7
            have HSS := hid hss; have HS7 := hid hss7; have HP9 := hid hp9; have HF9 := hid hf9
            have hpd := hid (hp9.frame (Fr.refl (fun _ => False) w9).drew not_false (fun _ _ => not_false))
            clear hss hss7 hp9 hf9 hall9 hdd htk
            have hlen : (txt ([lostB j] ++ A.drop j)).length = l.length - j + 1 := by simp [txt, hAl]
            have hss := HSS.out
            rw [if_pos hf0] at hss
            obtain ⟨ga, gc, rfl, hg1, hg2, hgk⟩ := hss
            rw [hlen] at hg1 hgk ⊢
            obtain ⟨b8, o8, rfl, -, -⟩ := hgk 0 (by omega)
            have hc7j : ¬ c7 = j := by omega
            have hgc1 : ¬ gc = 1 := by omega
            have hss0 := HSS.out
            rw [if_pos hf0] at hss0
            have hss2 := Ss.sub (a' := some ⟨b8, o8 + 1, none⟩) (c' := gc - 1) (len' := l.length - j) (l := txt ([lostB j] ++ A.drop j)) hss0 1 (by rw [hlen]; omega) (by rw [hlen]; omega) rfl (by rw [if_neg hgc1]; simp only [Option.map_some]; exact congrArg some (by unfold Addr.add; split <;> simp_all))
            have e2 : (txt ([lostB j] ++ A.drop j)).drop 1 = txt (A.drop j) := rfl
            rw [e2] at hss2
            have hss7 := HS7.out
            rw [← hAl, ← htl] at hss7
            have hss3 := Ss.sub (a' := some ⟨b7, o7 + j, none⟩) (c' := c7 - j) (len' := l.length - j) (l := txt A) hss7 j (by omega) (by omega) rfl (by rw [if_neg hc7j]; simp only [Option.map_some]; exact congrArg some (by unfold Addr.add; split <;> simp_all))
            have e3 : (txt A).drop j = txt (A.drop j) := by simp [txt]
            rw [e3] at hss3
            have HSS2 := hid hss2; have HSS3 := hid hss3
            clear hgk hss0 hss2 hss3 hss7 e2 e3
            go_wp2_with fail
            refine (sameTexts_any _ _ _ _ (txt (A.drop j)) (txt (A.drop j)) w9 HSS2.out HSS3.out).mono ?_
            rintro e w10 ⟨rfl, n, rfl⟩
            simp only [decide_true]
            have P10 : OutAt Bo (w9.drewN n) Bo M (usedB [] : Nat) (0 : Nat) lv9 [] := HP9.out.frame ((Fr.refl (fun _ => False) w9).drewN n) not_false (fun _ _ => not_false)
            have F10 := HF9.out.trans' ((Fr.refl (fun k => k = Bo) w9).drewN n)
            generalize w9.drewN n = w10 at *
            have HP10 := hid P10; have HF10 := hid F10
            clear P10 F10
            go_wp2_with fail
            refine (lost_any HP10.out).mono ?_
            rintro e w8 ⟨rfl, rfl⟩
            go_wp2_with fail
            refine (used_any HP10.out).mono ?_
            rintro e w8 ⟨rfl, rfl⟩
            go_wp2_with fail
            refine (take_any Bo Bo M 0 lv9 [] 5 w10 HP10.out (by omega) (by simp [usedB]) (by omega) (by omega) (by omega) (by have := HF10.out.size; omega)).mono ?_
            rintro e w11 ⟨ov2, lv11, rfl, -, -, hf11, -, -, hnil⟩
            have hnil := hnil rfl rfl
            subst hnil
            go_wp2_with fail
            go_ret
            refine ⟨rfl, hf.out.trans (HF10.out.trans' hf11) (fun _ _ h => h) (fun k hk e => ?_)⟩
            have := HS1.out
            omega
end Go.Proofs.YtlfiljebfnejbaaDoor
