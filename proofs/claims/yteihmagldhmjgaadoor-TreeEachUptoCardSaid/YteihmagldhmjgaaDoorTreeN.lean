/- Package tree: names. -/
import Derived.Test.YteihmagldhmjgaaDoorPrinted
namespace Go.Proofs.YteihmagldhmjgaaDoor
open Go.RowKit

def Tv : Nat → Prop := fun _ => True
/-- Is a text among these? -/
def memB (s : ByteArray) (l : List ByteArray) : Bool := l.any fun x => decide (x = s)
theorem memB_iff {s : ByteArray} {l : List ByteArray} : memB s l = true ↔ s ∈ l := by simp [memB]
theorem toList_ne {x y : ByteArray} (h : x ≠ y) : (x.toList == y.toList) = false := by
  rw [beq_eq_false_iff_ne, ByteArray.toList_eq, ByteArray.toList_eq]
  exact fun e => h (ByteArray.ext (Array.toList_inj.1 e))
theorem toList_same {x y : ByteArray} (h : x = y) : (x.toList == y.toList) = true := by rw [beq_iff_eq, h]
/-- Texts in a row of cells. -/
theorem Ss.lit {D : Nat → Prop} {w : World} {g : Nat} {l : List ByteArray} {cs : Array Value} {t : TypeId} {fz : Nat × Nat} (h : w.heap[g]? = some (.cells cs t fz)) (hc : cs = (sV l).toArray) (hD : D g) (hl : l.length ≤ 1000) : Ss D w (.slice (some ⟨g, 0, none⟩) l.length l.length) l := by
  subst hc
  refine ⟨_, _, rfl, Nat.le_refl _, by simp [maxLen]; omega, fun k hk => ⟨g, 0, rfl, hD, ?_⟩⟩
  rw [cell_of_row w g (0 + k) _ _ _ h, Nat.zero_add]
  simp [sV, hk, List.getD]
def keysL : List ByteArray := [⟨#[105, 102]⟩, ⟨#[101, 108, 115, 101, 105, 102]⟩, ⟨#[101, 108, 115, 101]⟩, ⟨#[101, 110, 100, 105, 102]⟩, ⟨#[102, 111, 114]⟩, ⟨#[105, 110]⟩, ⟨#[101, 110, 100, 102, 111, 114]⟩, ⟨#[119, 104, 105, 108, 101]⟩, ⟨#[101, 110, 100, 119, 104, 105, 108, 101]⟩, ⟨#[98, 114, 101, 97, 107]⟩, ⟨#[99, 111, 110, 116, 105, 110, 117, 101]⟩, ⟨#[114, 101, 116, 117, 114, 110]⟩, ⟨#[102, 111, 114, 107]⟩, ⟨#[101, 110, 100, 102, 111, 114, 107]⟩, ⟨#[116, 114, 121]⟩, ⟨#[101, 120, 99, 101, 112, 116]⟩, ⟨#[102, 105, 110, 97, 108, 108, 121]⟩, ⟨#[101, 110, 100, 116, 114, 121]⟩, ⟨#[97, 110, 121]⟩]
set_option maxRecDepth 100000 in
theorem keys_any (w : World) : Calls Tryd.prog 110 #[] w fun e w' => ∃ v, e = .returned v ∧ Ss Tv w' v keysL ∧ Fr (fun _ => False) w w' := by
  have HF := hid ((Fr.refl (fun _ => False) w).alloc (.cells #[.string ⟨#[105, 102]⟩, .string ⟨#[101, 108, 115, 101, 105, 102]⟩, .string ⟨#[101, 108, 115, 101]⟩, .string ⟨#[101, 110, 100, 105, 102]⟩, .string ⟨#[102, 111, 114]⟩, .string ⟨#[105, 110]⟩, .string ⟨#[101, 110, 100, 102, 111, 114]⟩, .string ⟨#[119, 104, 105, 108, 101]⟩, .string ⟨#[101, 110, 100, 119, 104, 105, 108, 101]⟩, .string ⟨#[98, 114, 101, 97, 107]⟩, .string ⟨#[99, 111, 110, 116, 105, 110, 117, 101]⟩, .string ⟨#[114, 101, 116, 117, 114, 110]⟩, .string ⟨#[102, 111, 114, 107]⟩, .string ⟨#[101, 110, 100, 102, 111, 114, 107]⟩, .string ⟨#[116, 114, 121]⟩, .string ⟨#[101, 120, 99, 101, 112, 116]⟩, .string ⟨#[102, 105, 110, 97, 108, 108, 121]⟩, .string ⟨#[101, 110, 100, 116, 114, 121]⟩, .string ⟨#[97, 110, 121]⟩] 9))
  have HS := hid (Ss.lit (D := Tv) (l := keysL) (heap_alloc_new w (.cells #[.string ⟨#[105, 102]⟩, .string ⟨#[101, 108, 115, 101, 105, 102]⟩, .string ⟨#[101, 108, 115, 101]⟩, .string ⟨#[101, 110, 100, 105, 102]⟩, .string ⟨#[102, 111, 114]⟩, .string ⟨#[105, 110]⟩, .string ⟨#[101, 110, 100, 102, 111, 114]⟩, .string ⟨#[119, 104, 105, 108, 101]⟩, .string ⟨#[101, 110, 100, 119, 104, 105, 108, 101]⟩, .string ⟨#[98, 114, 101, 97, 107]⟩, .string ⟨#[99, 111, 110, 116, 105, 110, 117, 101]⟩, .string ⟨#[114, 101, 116, 117, 114, 110]⟩, .string ⟨#[102, 111, 114, 107]⟩, .string ⟨#[101, 110, 100, 102, 111, 114, 107]⟩, .string ⟨#[116, 114, 121]⟩, .string ⟨#[101, 120, 99, 101, 112, 116]⟩, .string ⟨#[102, 105, 110, 97, 108, 108, 121]⟩, .string ⟨#[101, 110, 100, 116, 114, 121]⟩, .string ⟨#[97, 110, 121]⟩] 9)) rfl trivial (by decide))
  go_enter Tryd.func110, Tryd.ntmps110
  go_wp2_with fail
  go_ret
  exact ⟨_, rfl, HS.out, HF.out⟩
set_option maxHeartbeats 800000 in
theorem index_any (s : ByteArray) (l : List ByteArray) (hl : l.length ≤ 1099511627776) (v : Value) (w : World) (h : Ss Tv w v l) : Calls Tryd.prog 114 #[v, .string s] w fun e w' => (∃ i : Int, e = .returned (.int .i64 i) ∧ (0 ≤ i ↔ s ∈ l)) ∧ w = w' := by
  obtain ⟨a, c, rfl, h1, h2, hk⟩ := h
  have HC := hid hk
  have hlI : (l.length : Int) ≤ 1099511627776 := by omega
  clear hk h1 h2 hl
  go_enter Tryd.func114, Tryd.ntmps114
  go_wp2_with fail
  go_loopw [8] (fun i wr => ∃ k : Nat, k ≤ l.length ∧ i = .int .i64 k ∧ w = wr ∧ Hid (∀ j, j < k → l.getD j ByteArray.empty ≠ s)) (fun i _ => l.length - (intOf i).toNat)
  case atStart => exact ⟨0, Nat.zero_le _, rfl, rfl, hid fun j hj => by omega⟩
  case round =>
    obtain ⟨k, hk, rfl, rfl, HA⟩ := hrel
    by_cases hlt : k < l.length
    · obtain ⟨b, o, rfl, -, hc⟩ := HC.out k hlt
      have hlt' : (k : Int) < l.length := by omega
      by_cases he : s = l.getD k ByteArray.empty
      · have HM := hid (show s ∈ l by rw [he]; simp [List.getD, hlt])
        have hq := toList_same he
        generalize l.getD k ByteArray.empty = d at *
        clear he
        go_wp2_with fail
        go_ret
        exact ⟨⟨_, rfl, ⟨fun _ => HM.out, fun _ => by omega⟩⟩, rfl⟩
      · generalize hd : l.getD k ByteArray.empty = d at *
        have HNE := hid he
        have HD := hid hd
        have hq := toList_ne he
        clear hd he
        go_wp2_with fail
        go_roundw
        case rel => exact ⟨k + 1, by omega, by go_num, trivial, hid (all_step HA.out (by rw [HD.out]; exact fun e => HNE.out e.symm))⟩
        case measure => simp [intOf]; omega
    · obtain rfl : k = l.length := by omega
      have HN := hid (show s ∉ l from fun hm => by
        obtain ⟨j, hj, e⟩ := List.getElem_of_mem hm
        exact HA.out j hj (by simp [List.getD, hj, e]))
      go_wp2_with fail
      go_ret
      exact ⟨⟨_, rfl, ⟨fun h => by omega, fun h => absurd h HN.out⟩⟩, rfl⟩
theorem contains_any (s : ByteArray) (l : List ByteArray) (hl : l.length ≤ 1099511627776) (v : Value) (w : World) (h : Ss Tv w v l) : Calls Tryd.prog 109 #[v, .string s] w fun e w' => e = .returned (.bool (memB s l)) ∧ w = w' := by
  have HC := hid (index_any s l hl v w h)
  obtain ⟨a, c, rfl, -⟩ := h
  go_enter Tryd.func109, Tryd.ntmps109
  go_wp2_with fail
  refine HC.out.mono ?_
  rintro e w2 ⟨⟨i, rfl, hi⟩, rfl⟩
  have hd : decide (i ≥ 0) = memB s l := by
    by_cases hm : s ∈ l
    · rw [memB_iff.2 hm, decide_eq_true (hi.2 hm)]
    · rw [Bool.eq_false_iff.2 (fun h => hm (memB_iff.1 h)), decide_eq_false (fun h => hm (hi.1 h))]
  have HD := hid hd
  clear hd hi
  go_wp2_with fail
  go_ret
  exact ⟨by rw [← HD.out]; rfl, rfl⟩

/-- A byte of a name. -/
def okc (c : Nat) : Bool := (decide (97 ≤ c) && decide (c ≤ 122)) || (decide (48 ≤ c) && decide (c ≤ 57)) || decide (c = 95)
def smallc (c : Nat) : Bool := (decide (97 ≤ c) && decide (c ≤ 122)) || decide (c = 95)
def at0 (s : ByteArray) (k : Nat) : Nat := (s.data.toList.getD k 0).toNat
/-- A name by its bytes. -/
def bName (s : ByteArray) : Prop := 1 ≤ s.size ∧ s.size ≤ 32 ∧ smallc (at0 s 0) = true ∧ ∀ j, j < s.size → okc (at0 s j) = true
instance (s : ByteArray) : Decidable (bName s) := by unfold bName; exact inferInstance
theorem okc_cases {c : Nat} (h : okc c = true) : (97 ≤ c ∧ c ≤ 122) ∨ (48 ≤ c ∧ c ≤ 57) ∨ c = 95 := by simp [okc] at h; omega
theorem okc_of {c : Nat} (h : (97 ≤ c ∧ c ≤ 122) ∨ (48 ≤ c ∧ c ≤ 57) ∨ c = 95) : okc c = true := by simp [okc]; omega
theorem small_of {c : Nat} (h : (97 ≤ c ∧ c ≤ 122) ∨ c = 95) : smallc c = true := by simp [smallc]; omega
theorem small_cases {c : Nat} (h : smallc c = true) : (97 ≤ c ∧ c ≤ 122) ∨ c = 95 := by simp [smallc] at h; omega
/-- A name, and no key. -/
def pName (s : ByteArray) : Bool := decide (bName s) && !memB s keysL
theorem pName_no {s : ByteArray} (h : ¬ bName s) : pName s = false := by simp [pName, h]
theorem pName_is {s : ByteArray} (h : bName s) : pName s = !memB s keysL := by simp [pName, h]
set_option maxHeartbeats 1600000 in
theorem name_any (s : ByteArray) (hs : s.size ≤ 1099511627776) (w : World) : Calls Tryd.prog 95 #[.string s] w fun e w' => e = .returned (.bool (pName s)) ∧ Fr (fun _ => False) w w' := by
  have hsI : (s.size : Int) ≤ 1099511627776 := by omega
  by_cases h1 : s.size < 1
  · have HR := hid (pName_no (s := s) fun h => by have := h.1; omega)
    clear hs
    go_enter Tryd.func95, Tryd.ntmps95
    go_wp2_with fail
    go_ret
    exact ⟨ret_bool HR.out.symm, Fr.refl _ _⟩
  by_cases h2 : 32 < s.size
  · have HR := hid (pName_no (s := s) fun h => by have := h.2.1; omega)
    clear hs
    go_enter Tryd.func95, Tryd.ntmps95
    go_wp2_with fail
    go_ret
    exact ⟨ret_bool HR.out.symm, Fr.refl _ _⟩
  have h0 : 0 < s.size := by omega
  have hb0 : at0 s 0 = s[0].toNat := by
    have : 0 < s.data.toList.length := by simpa using h0
    simp [at0, List.getD, h0]; rfl
  by_cases h3 : 48 ≤ s[0].toNat ∧ s[0].toNat ≤ 57
  · obtain ⟨h3a, h3b⟩ := h3
    have HR := hid (pName_no (s := s) fun h => by have := small_cases h.2.2.1; omega)
    clear hs hb0
    go_enter Tryd.func95, Tryd.ntmps95
    go_wp2_with fail
    go_ret
    exact ⟨ret_bool HR.out.symm, Fr.refl _ _⟩
  have HB0 := hid hb0
  clear hb0
  have h4 : s[0].toNat < 48 ∨ 57 < s[0].toNat := by omega
  have H3 := hid h3
  clear h3
  rcases h4 with h4 | h4
  all_goals
    go_enter Tryd.func95, Tryd.ntmps95
    go_wp2_with fail
    go_loopw [25] (fun i wr => ∃ k : Nat, k ≤ s.size ∧ i = .int .i64 k ∧ w = wr ∧ Hid (∀ j, j < k → okc (at0 s j) = true)) (fun i _ => s.size - (intOf i).toNat)
    case atStart => exact ⟨0, Nat.zero_le _, rfl, rfl, hid fun j hj => by omega⟩
    case round =>
      obtain ⟨k, hk, rfl, rfl, HA⟩ := hrel
      by_cases hlt : k < s.size
      · have hlt' : (k : Int) < s.size := by omega
        have hbk : at0 s k = s[k].toNat := by
          have : k < s.data.toList.length := by simpa using hlt
          simp [at0, List.getD, hlt]; rfl
        by_cases hok : okc (at0 s k) = true
        · have HOK := hid hok
          have h5 := okc_cases hok
          rw [hbk] at h5
          clear hok hbk
          rcases h5 with ⟨h5, h6⟩ | ⟨h5, h6⟩ | h5
          all_goals
            go_wp2_with fail
            all_goals first
              | exact ⟨⟨k + 1, by omega, by go_num, trivial, hid (all_step HA.out HOK.out)⟩, by simp [intOf]; omega⟩
              | (go_roundw <;> first | exact ⟨k + 1, by omega, by go_num, rfl, hid (all_step HA.out HOK.out)⟩ | exact ⟨k + 1, by omega, by go_num, trivial, hid (all_step HA.out HOK.out)⟩ | (simp [intOf]; omega))
        · have HR := hid (pName_no (s := s) fun h => hok (h.2.2.2 k hlt))
          have h5 : s[k].toNat < 48 ∨ (57 < s[k].toNat ∧ s[k].toNat < 95) ∨ s[k].toNat = 96 ∨ 122 < s[k].toNat := by
            rw [hbk] at hok
            have : ¬ ((97 ≤ s[k].toNat ∧ s[k].toNat ≤ 122) ∨ (48 ≤ s[k].toNat ∧ s[k].toNat ≤ 57) ∨ s[k].toNat = 95) := fun h => hok (okc_of h)
            omega
          have hne : ((s[k].toNat : Int) != 95) = true := by rw [bne_iff_ne]; omega
          clear hok hbk
          rcases h5 with h5 | ⟨h5, h6⟩ | h5 | h5
          all_goals
            go_wp2_with fail
            all_goals first | (go_ret; exact ⟨ret_bool HR.out.symm, Fr.refl _ _⟩) | (exfalso; omega)
      · obtain rfl : k = s.size := by omega
        have HR := hid (pName_is (s := s) ⟨by omega, by omega, by
          have h6 := okc_cases (HA.out 0 h0)
          have h7 := HB0.out
          have h8 := H3.out
          exact small_of (by omega), HA.out⟩)
        have HK := hid (keys_any w)
        go_wp2_with fail
        refine HK.out.mono ?_
        rintro e w2 ⟨v, rfl, hs2, hf2⟩
        have HC := hid (contains_any s keysL (by decide) v w2 hs2)
        have HF := hid hf2
        obtain ⟨a, c, rfl, -⟩ := hs2
        clear hf2
        go_wp2_with fail
        refine HC.out.mono ?_
        rintro e w3 ⟨rfl, rfl⟩
        have HX := hid HR.out
        generalize memB s keysL = bb at *
        go_wp2_with fail
        go_ret
        exact ⟨ret_bool HX.out.symm, HF.out⟩
end Go.Proofs.YteihmagldhmjgaaDoor
