import Derived.Test.YtbegahbagnflnaaGreatDoorMn03
import Derived.Test.YtbegahbagnflnaaGreatDoorMn01
set_option linter.unusedSimpArgs false
set_option linter.unusedVariables false
set_option linter.unnecessarySimpa false
namespace Go.Proofs.YtbegahbagnflnaaGreatDoor
section
open Go.RowKit
def Tv : Nat → Prop := fun _ => True
def memB (s : ByteArray) (l : List ByteArray) : Bool := l.any fun x => decide (x = s)
theorem memB_iff {s : ByteArray} {l : List ByteArray} : memB s l = true ↔ s ∈ l := by simp [memB]
theorem toList_ne {x y : ByteArray} (h : x ≠ y) : (x.toList == y.toList) = false := by
 rw [beq_eq_false_iff_ne, ByteArray.toList_eq, ByteArray.toList_eq]
 exact fun e => h (ByteArray.ext (Array.toList_inj.1 e))
theorem toList_same {x y : ByteArray} (h : x = y) : (x.toList == y.toList) = true := by rw [beq_iff_eq, h]
theorem Ss.lit {D : Nat → Prop} {w : World} {g : Nat} {l : List ByteArray} {cs : Array Value} {t : TypeId} {fz : Nat × Nat} (h : w.heap[g]? = some (.cells cs t fz)) (hc : cs = (sV l).toArray) (hD : D g) (hl : l.length ≤ 1000) : Ss D w (.slice (some ⟨g, 0, none⟩) l.length l.length) l := by
 subst hc
 refine ⟨_, _, rfl, Nat.le_refl _, by simp [maxLen]; omega, fun k hk => ⟨g, 0, rfl, hD, ?_⟩⟩
 rw [cell_of_row w g (0 + k) _ _ _ h, Nat.zero_add]
 simp [sV, hk, List.getD]
def keysL : List ByteArray := [⟨#[105, 102]⟩, ⟨#[101, 108, 115, 101, 105, 102]⟩, ⟨#[101, 108, 115, 101]⟩, ⟨#[101, 110, 100, 105, 102]⟩, ⟨#[102, 111, 114]⟩, ⟨#[105, 110]⟩, ⟨#[101, 110, 100, 102, 111, 114]⟩, ⟨#[119, 104, 105, 108, 101]⟩, ⟨#[101, 110, 100, 119, 104, 105, 108, 101]⟩, ⟨#[98, 114, 101, 97, 107]⟩, ⟨#[99, 111, 110, 116, 105, 110, 117, 101]⟩, ⟨#[114, 101, 116, 117, 114, 110]⟩, ⟨#[102, 111, 114, 107]⟩, ⟨#[101, 110, 100, 102, 111, 114, 107]⟩, ⟨#[116, 114, 121]⟩, ⟨#[101, 120, 99, 101, 112, 116]⟩, ⟨#[102, 105, 110, 97, 108, 108, 121]⟩, ⟨#[101, 110, 100, 116, 114, 121]⟩, ⟨#[97, 110, 121]⟩]
set_option maxRecDepth 100000 in
theorem keys_any (w : World) : Calls Tryz.prog 146 #[] w fun e w' => ∃ v, e = .returned v ∧ Ss Tv w' v keysL ∧ Fr (fun _ => False) w w' := by
 have HF := hid ((Fr.refl (fun _ => False) w).alloc (.cells #[.string ⟨#[105, 102]⟩, .string ⟨#[101, 108, 115, 101, 105, 102]⟩, .string ⟨#[101, 108, 115, 101]⟩, .string ⟨#[101, 110, 100, 105, 102]⟩, .string ⟨#[102, 111, 114]⟩, .string ⟨#[105, 110]⟩, .string ⟨#[101, 110, 100, 102, 111, 114]⟩, .string ⟨#[119, 104, 105, 108, 101]⟩, .string ⟨#[101, 110, 100, 119, 104, 105, 108, 101]⟩, .string ⟨#[98, 114, 101, 97, 107]⟩, .string ⟨#[99, 111, 110, 116, 105, 110, 117, 101]⟩, .string ⟨#[114, 101, 116, 117, 114, 110]⟩, .string ⟨#[102, 111, 114, 107]⟩, .string ⟨#[101, 110, 100, 102, 111, 114, 107]⟩, .string ⟨#[116, 114, 121]⟩, .string ⟨#[101, 120, 99, 101, 112, 116]⟩, .string ⟨#[102, 105, 110, 97, 108, 108, 121]⟩, .string ⟨#[101, 110, 100, 116, 114, 121]⟩, .string ⟨#[97, 110, 121]⟩] 9))
 have HS := hid (Ss.lit (D := Tv) (l := keysL) (heap_alloc_new w (.cells #[.string ⟨#[105, 102]⟩, .string ⟨#[101, 108, 115, 101, 105, 102]⟩, .string ⟨#[101, 108, 115, 101]⟩, .string ⟨#[101, 110, 100, 105, 102]⟩, .string ⟨#[102, 111, 114]⟩, .string ⟨#[105, 110]⟩, .string ⟨#[101, 110, 100, 102, 111, 114]⟩, .string ⟨#[119, 104, 105, 108, 101]⟩, .string ⟨#[101, 110, 100, 119, 104, 105, 108, 101]⟩, .string ⟨#[98, 114, 101, 97, 107]⟩, .string ⟨#[99, 111, 110, 116, 105, 110, 117, 101]⟩, .string ⟨#[114, 101, 116, 117, 114, 110]⟩, .string ⟨#[102, 111, 114, 107]⟩, .string ⟨#[101, 110, 100, 102, 111, 114, 107]⟩, .string ⟨#[116, 114, 121]⟩, .string ⟨#[101, 120, 99, 101, 112, 116]⟩, .string ⟨#[102, 105, 110, 97, 108, 108, 121]⟩, .string ⟨#[101, 110, 100, 116, 114, 121]⟩, .string ⟨#[97, 110, 121]⟩] 9)) rfl trivial (by decide))
 go_enter Tryz.func146, Tryz.ntmps146
 go_wp2_with fail
 go_ret
 exact ⟨_, rfl, HS.out, HF.out⟩
set_option maxHeartbeats 800000 in
theorem index_any (s : ByteArray) (l : List ByteArray) (hl : l.length ≤ 1099511627776) (v : Value) (w : World) (h : Ss Tv w v l) : Calls Tryz.prog 150 #[v, .string s] w fun e w' => (∃ i : Int, e = .returned (.int .i64 i) ∧ (0 ≤ i ↔ s ∈ l)) ∧ w = w' := by
 obtain ⟨a, c, rfl, h1, h2, hk⟩ := h
 have HC := hid hk
 have hlI : (l.length : Int) ≤ 1099511627776 := by omega
 clear hk h1 h2 hl
 go_enter Tryz.func150, Tryz.ntmps150
 go_wp2_with fail
 go_loopw [8] (fun i wr => ∃ k : Nat, k ≤ l.length ∧ i = .int .i64 k ∧ w = wr ∧ Hid (∀ j, j < k → l.getD j ByteArray.empty ≠ s)) (fun i _ => l.length - (intOf i).toNat)
 case atStart => exact ⟨0, Nat.zero_le _, rfl, rfl, hid fun j hj => by omega⟩
 case round =>
  obtain ⟨k, hk, rfl, rfl, HA⟩ := hrel
  by_cases hlt : k < l.length
  ·obtain ⟨b, o, rfl, -, hc⟩ := HC.out k hlt
   have hlt' : (k : Int) < l.length := by omega
   by_cases he : s = l.getD k ByteArray.empty
   ·have HM := hid (show s ∈ l by rw [he]; simp [List.getD, hlt])
    have hq := toList_same he
    generalize l.getD k ByteArray.empty = d at *
    clear he
    go_wp2_with fail
    go_ret
    exact ⟨⟨_, rfl, ⟨fun _ => HM.out, fun _ => by omega⟩⟩, rfl⟩
   ·generalize hd : l.getD k ByteArray.empty = d at *
    have HNE := hid he
    have HD := hid hd
    have hq := toList_ne he
    clear hd he
    go_wp2_with fail
    go_roundw
    case rel => exact ⟨k + 1, by omega, by go_num, trivial, hid (all_step HA.out (by rw [HD.out]; exact fun e => HNE.out e.symm))⟩
    case measure => simp [intOf]; omega
  ·obtain rfl : k = l.length := by omega
   have HN := hid (show s ∉ l from fun hm => by
    obtain ⟨j, hj, e⟩ := List.getElem_of_mem hm
    exact HA.out j hj (by simp [List.getD, hj, e]))
   go_wp2_with fail
   go_ret
   exact ⟨⟨_, rfl, ⟨fun h => by omega, fun h => absurd h HN.out⟩⟩, rfl⟩
theorem contains_any (s : ByteArray) (l : List ByteArray) (hl : l.length ≤ 1099511627776) (v : Value) (w : World) (h : Ss Tv w v l) : Calls Tryz.prog 145 #[v, .string s] w fun e w' => e = .returned (.bool (memB s l)) ∧ w = w' := by
 have HC := hid (index_any s l hl v w h)
 obtain ⟨a, c, rfl, -⟩ := h
 go_enter Tryz.func145, Tryz.ntmps145
 go_wp2_with fail
 refine HC.out.mono ?_
 rintro e w2 ⟨⟨i, rfl, hi⟩, rfl⟩
 have hd : decide (i ≥ 0) = memB s l := by
  by_cases hm : s ∈ l
  ·rw [memB_iff.2 hm, decide_eq_true (hi.2 hm)]
  ·rw [Bool.eq_false_iff.2 (fun h => hm (memB_iff.1 h)), decide_eq_false (fun h => hm (hi.1 h))]
 have HD := hid hd
 clear hd hi
 go_wp2_with fail
 go_ret
 exact ⟨by rw [← HD.out]; rfl, rfl⟩
def okc (c : Nat) : Bool := (decide (97 ≤ c) && decide (c ≤ 122)) || (decide (48 ≤ c) && decide (c ≤ 57)) || decide (c = 95)
def smallc (c : Nat) : Bool := (decide (97 ≤ c) && decide (c ≤ 122)) || decide (c = 95)
def at0 (s : ByteArray) (k : Nat) : Nat := (s.data.toList.getD k 0).toNat
def bName (s : ByteArray) : Prop := 1 ≤ s.size ∧ s.size ≤ 32 ∧ smallc (at0 s 0) = true ∧ ∀ j, j < s.size → okc (at0 s j) = true
instance (s : ByteArray) : Decidable (bName s) := by unfold bName; exact inferInstance
theorem okc_cases {c : Nat} (h : okc c = true) : (97 ≤ c ∧ c ≤ 122) ∨ (48 ≤ c ∧ c ≤ 57) ∨ c = 95 := by simp [okc] at h; omega
theorem okc_of {c : Nat} (h : (97 ≤ c ∧ c ≤ 122) ∨ (48 ≤ c ∧ c ≤ 57) ∨ c = 95) : okc c = true := by simp [okc]; omega
theorem small_of {c : Nat} (h : (97 ≤ c ∧ c ≤ 122) ∨ c = 95) : smallc c = true := by simp [smallc]; omega
theorem small_cases {c : Nat} (h : smallc c = true) : (97 ≤ c ∧ c ≤ 122) ∨ c = 95 := by simp [smallc] at h; omega
def pName (s : ByteArray) : Bool := decide (bName s) && !memB s keysL
theorem pName_no {s : ByteArray} (h : ¬ bName s) : pName s = false := by simp [pName, h]
theorem pName_is {s : ByteArray} (h : bName s) : pName s = !memB s keysL := by simp [pName, h]
set_option maxHeartbeats 1600000 in
theorem name_any (s : ByteArray) (hs : s.size ≤ 1099511627776) (w : World) : Calls Tryz.prog 133 #[.string s] w fun e w' => e = .returned (.bool (pName s)) ∧ Fr (fun _ => False) w w' := by
 have hsI : (s.size : Int) ≤ 1099511627776 := by omega
 by_cases h1 : s.size < 1
 ·have HR := hid (pName_no (s := s) fun h => by have := h.1; omega)
  clear hs
  go_enter Tryz.func133, Tryz.ntmps133
  go_wp2_with fail
  go_ret
  exact ⟨ret_bool HR.out.symm, Fr.refl _ _⟩
 by_cases h2 : 32 < s.size
 ·have HR := hid (pName_no (s := s) fun h => by have := h.2.1; omega)
  clear hs
  go_enter Tryz.func133, Tryz.ntmps133
  go_wp2_with fail
  go_ret
  exact ⟨ret_bool HR.out.symm, Fr.refl _ _⟩
 have h0 : 0 < s.size := by omega
 have hb0 : at0 s 0 = s[0].toNat := by
  have : 0 < s.data.toList.length := by simpa using h0
  simp [at0, List.getD, h0]; rfl
 by_cases h3 : 48 ≤ s[0].toNat ∧ s[0].toNat ≤ 57
 ·obtain ⟨h3a, h3b⟩ := h3
  have HR := hid (pName_no (s := s) fun h => by have := small_cases h.2.2.1; omega)
  clear hs hb0
  go_enter Tryz.func133, Tryz.ntmps133
  go_wp2_with fail
  go_ret
  exact ⟨ret_bool HR.out.symm, Fr.refl _ _⟩
 have HB0 := hid hb0
 clear hb0
 have h4 : s[0].toNat < 48 ∨ 57 < s[0].toNat := by omega
 have H3 := hid h3
 clear h3
 rcases h4 with h4 | h4
 all_goals
  go_enter Tryz.func133, Tryz.ntmps133
  go_wp2_with fail
  go_loopw [25] (fun i wr => ∃ k : Nat, k ≤ s.size ∧ i = .int .i64 k ∧ w = wr ∧ Hid (∀ j, j < k → okc (at0 s j) = true)) (fun i _ => s.size - (intOf i).toNat)
  case atStart => exact ⟨0, Nat.zero_le _, rfl, rfl, hid fun j hj => by omega⟩
  case round =>
   obtain ⟨k, hk, rfl, rfl, HA⟩ := hrel
   by_cases hlt : k < s.size
   ·have hlt' : (k : Int) < s.size := by omega
    have hbk : at0 s k = s[k].toNat := by
     have : k < s.data.toList.length := by simpa using hlt
     simp [at0, List.getD, hlt]; rfl
    by_cases hok : okc (at0 s k) = true
    ·have HOK := hid hok
     have h5 := okc_cases hok
     rw [hbk] at h5
     clear hok hbk
     rcases h5 with ⟨h5, h6⟩ | ⟨h5, h6⟩ | h5
     all_goals
      go_wp2_with fail
      all_goals first
       | exact ⟨⟨k + 1, by omega, by go_num, trivial, hid (all_step HA.out HOK.out)⟩, by simp [intOf]; omega⟩
       | (go_roundw <;> first | exact ⟨k + 1, by omega, by go_num, rfl, hid (all_step HA.out HOK.out)⟩ | exact ⟨k + 1, by omega, by go_num, trivial, hid (all_step HA.out HOK.out)⟩ | (simp [intOf]; omega))
    ·have HR := hid (pName_no (s := s) fun h => hok (h.2.2.2 k hlt))
     have h5 : s[k].toNat < 48 ∨ (57 < s[k].toNat ∧ s[k].toNat < 95) ∨ s[k].toNat = 96 ∨ 122 < s[k].toNat := by
      rw [hbk] at hok
      have : ¬ ((97 ≤ s[k].toNat ∧ s[k].toNat ≤ 122) ∨ (48 ≤ s[k].toNat ∧ s[k].toNat ≤ 57) ∨ s[k].toNat = 95) := fun h => hok (okc_of h)
      omega
     have hne : ((s[k].toNat : Int) != 95) = true := by rw [bne_iff_ne]; omega
     clear hok hbk
     rcases h5 with h5 | ⟨h5, h6⟩ | h5 | h5
     all_goals
      go_wp2_with fail
      all_goals first | (go_ret; exact ⟨ret_bool HR.out.symm, Fr.refl _ _⟩) | (exfalso; omega)
   ·obtain rfl : k = s.size := by omega
    have HR := hid (pName_is (s := s) ⟨by omega, by omega, by
     have h6 := okc_cases (HA.out 0 h0)
     have h7 := HB0.out
     have h8 := H3.out
     exact small_of (by omega), HA.out⟩)
    have HK := hid (keys_any w)
    go_wp2_with fail
    refine HK.out.mono ?_
    rintro e w2 ⟨v, rfl, hs2, hf2⟩
    have HC := hid (contains_any s keysL (by decide) v w2 hs2)
    have HF := hid hf2
    obtain ⟨a, c, rfl, -⟩ := hs2
    clear hf2
    go_wp2_with fail
    refine HC.out.mono ?_
    rintro e w3 ⟨rfl, rfl⟩
    have HX := hid HR.out
    generalize memB s keysL = bb at *
    go_wp2_with fail
    go_ret
    exact ⟨ret_bool HX.out.symm, HF.out⟩
end
section
open Go.RowKit
theorem wp_appendR {P : Program} {o : Oper} {a : Act} {w : World} {K : Act → World → Prop} {Q : Exit → Act → World → Prop} (s x : Operand) (t : TypeId)
  (ho : o.op = .call { callee := .builtin .append, args := #[s, x], argTypes := #[t, t] })
  (e : TypeId) (z : Value) (sz bytes : Nat) (ht : P.underlying t = some (.slice e)) (hrow : (P.info? e).map (fun i => (i.zero, i.size, i.bytes)) = some (some z, sz, bytes)) (hzs : z.cells.size = sz) (hsz0 : 0 < sz)
  (v : Value) (hs : a.eval s = v) (base n : Nat) (xs : List Value) (hown : w.ownsRow base e sz v n xs)
  (g0 c : Nat) (us : List Value) (hus : us.length = sz) (hx : a.eval x = .slice (some ⟨g0, 0, none⟩) 1 c) (hu : ∀ j y, us[j]? = some y → w.cell? ⟨g0, j, none⟩ = some y) (h1 : ∀ y ∈ us, y.oneCell' = true)
  (h63 : n + 1 ≤ 1099511627776) (hby : bytes ≤ 64) (hbase : base ≤ w.heap.size)
  (h : ∀ g cap w', w'.ownsRow base e sz (.slice (some ⟨g, 0, none⟩) (n + 1) cap) (n + 1) (xs ++ us) → Fr (fun k => some k = v.ownBlock) w w' → (v.ownBlock = some g ∨ w.heap.size ≤ g) → K (a.put o.dst (.slice (some ⟨g, 0, none⟩) (n + 1) cap)) w') : o.wp P a w K Q := by
 obtain ⟨i, hi, hz, hsz, hbt⟩ := info_parts hrow
 have hb2 : (n + 1) * bytes ≤ 140737488355328 := by
  have := Nat.mul_le_mul h63 hby
  omega
 have key : ∃ g cap w', (Builtin.append_ #[t, t] o.type #[v, .slice (some ⟨g0, 0, none⟩) 1 c]).run P w = .ok (.slice (some ⟨g, 0, none⟩) (n + 1) cap) w' ∧ w'.ownsRow base e sz (.slice (some ⟨g, 0, none⟩) (n + 1) cap) (n + 1) (xs ++ us) ∧ w.grownBy w' v.ownBlock ∧ (v.ownBlock = some g ∨ w.heap.size ≤ g) := by
  have hcells : ∀ j y, us[j]? = some y → w.cell? ((⟨g0, 0, none⟩ : Addr).add j) = some y := by
   intro j y hy
   have : (⟨g0, 0, none⟩ : Addr).add j = ⟨g0, j, none⟩ := by unfold Addr.add; split <;> simp_all
   rw [this]
   exact hu j y hy
  have hmx : n + 1 ≤ maxLen := by unfold maxLen; omega
  obtain ⟨v', w', hr, ho', hg, hn⟩ := run_append_own (P := P) w base t o.type e i z sz bytes ht hi hz hsz hbt hzs hsz0 v n xs hown ⟨g0, 0, none⟩ 1 c us (by rw [hus, Nat.one_mul]) hcells h1 hmx hb2 hbase
  rcases ho'.2 with ⟨_, h0⟩ | ⟨g, cap, cur, rfl, hbg, hgg, _⟩
  ·omega
  ·refine ⟨g, cap, w', hr, ho', hg, ?_⟩
   rcases hown.2 with ⟨rfl, rfl⟩ | ⟨g1, cap1, cur1, rfl, hb1, hg1, hnc, hcm, hcs, htk⟩
   ·refine .inr (Nat.le_of_not_lt fun hlt => ?_)
    have e1 := run_append_nil (P := P) w t o.type e i z ht hi hz ⟨g0, 0, none⟩ 1 c us (by rw [hus, hsz, Nat.one_mul]) hcells (by decide) (by decide) (by rw [hbt]; simp; omega)
    rw [hr] at e1
    simp only [Result.ok.injEq, Value.slice.injEq, Option.some.injEq, Addr.mk.injEq] at e1
    omega
   ·by_cases hroom : n + 1 ≤ cap1
    ·have e1 := run_append_room (P := P) w t o.type e i ht hi g1 n cap1 cur1 hg1 ⟨g0, 0, none⟩ 1 c us (by rw [hus, hsz, Nat.one_mul]) hcells h1 hroom (by rw [hcs, hus, hsz]; have := Nat.mul_le_mul_right sz hroom; rw [Nat.add_mul, Nat.one_mul] at this; exact this)
     rw [hr] at e1
     simp only [Result.ok.injEq, Value.slice.injEq, Option.some.injEq, Addr.mk.injEq] at e1
     left; simp [Value.ownBlock]; omega
    ·have holds : ∀ j u, xs[j]? = some u → w.cell? ((⟨g1, 0, none⟩ : Addr).add j) = some u := hown.cells (g := g1) rfl
     have e1 := run_append_grow (P := P) w t o.type e i z ht hi hz ⟨g1, 0, none⟩ n cap1 xs (by rw [hsz]; exact hown.1) holds ⟨g0, 0, none⟩ 1 c us (by rw [hus, hsz, Nat.one_mul]) hcells (by unfold maxLen at hmx; omega) (by omega) (growslice_fits (by omega) (by rw [hbt]; exact hb2))
     rw [hr] at e1
     simp only [Result.ok.injEq, Value.slice.injEq, Option.some.injEq, Addr.mk.injEq] at e1
     right; simp at e1; omega
 obtain ⟨g, cap, w', hr, ho', hg, hw⟩ := key
 unfold Oper.wp execOp
 simp only [ho, resolve, invoke, builtin, Sem.run_bind, Sem.run_pure, Result.andThen_ok, List.map_toArray, List.map_cons, List.map_nil, hs, hx, hr]
 exact h g cap w' ho' (Fr.of_grownBy hg) hw
theorem wpList_appendR {P : Program} {ops : Array Oper} {rest : List Oper} {o : Oper} {a : Act} {w : World} {Q : Exit → Act → World → Prop} (hgd : o.guard = none) (s x : Operand) (t : TypeId)
  (ho : o.op = .call { callee := .builtin .append, args := #[s, x], argTypes := #[t, t] })
  (e : TypeId) (z : Value) (sz bytes : Nat) (ht : P.underlying t = some (.slice e)) (hrow : (P.info? e).map (fun i => (i.zero, i.size, i.bytes)) = some (some z, sz, bytes)) (hzs : z.cells.size = sz) (hsz0 : 0 < sz)
  (v : Value) (hs : a.eval s = v) (base n : Nat) (xs : List Value) (hown : w.ownsRow base e sz v n xs)
  (g0 c : Nat) (us : List Value) (hus : us.length = sz) (hx : a.eval x = .slice (some ⟨g0, 0, none⟩) 1 c) (hu : ∀ j y, us[j]? = some y → w.cell? ⟨g0, j, none⟩ = some y) (h1 : ∀ y ∈ us, y.oneCell' = true)
  (h63 : n + 1 ≤ 1099511627776) (hby : bytes ≤ 64) (hbase : base ≤ w.heap.size)
  (h : ∀ g cap w', w'.ownsRow base e sz (.slice (some ⟨g, 0, none⟩) (n + 1) cap) (n + 1) (xs ++ us) → Fr (fun k => some k = v.ownBlock) w w' → (v.ownBlock = some g ∨ w.heap.size ≤ g) → wpList P ops Q rest (a.put o.dst (.slice (some ⟨g, 0, none⟩) (n + 1) cap)) w') : wpList P ops Q (o :: rest) a w :=
 wpList_plain hgd fun _ hK => wp_appendR s x t ho e z sz bytes ht hrow hzs hsz0 v hs base n xs hown g0 c us hus hx hu h1 h63 hby hbase fun g cap w' h1 h2 h3 => hK _ _ (h g cap w' h1 h2 h3)
theorem cells_new4 (w : World) (cs : Array Value) (t : TypeId) (fz : Nat × Nat) : ∀ j y, cs.toList[j]? = some y → (w.alloc (.cells cs t fz)).cell? ⟨w.heap.size, j, none⟩ = some y := by
 intro j y h
 have h0 : (w.alloc (.cells cs t fz)).heap[w.heap.size]? = some (.cells cs t fz) := heap_alloc_new w _
 rw [cell_of_row _ _ j _ _ _ h0]
 simpa using h
def Soft (w : World) (b : Nat) : Prop := ∀ i, w.frozen? ⟨b, i, none⟩ = false
theorem Fr.soft {S : Nat → Prop} {w w' : World} (hf : Fr S w w') {k : Nat} (hk : k < w.heap.size) (hS : ¬ S k) (h : Soft w k) : Soft w' k := by
 intro i
 rw [← h i]
 simp only [World.frozen?, hf.block k hk hS]
theorem VIn.soft {B : Nat → Prop} {S : Nat → Prop} {w w' : World} {x : V} {u : Array Value} (h : VIn (fun b => B b ∧ Soft w b) w x u) (hf : Fr S w w') (hS : ∀ k, B k → ¬ S k) : VIn (fun b => B b ∧ Soft w' b) w' x u :=
 ((h.mono (E := fun b => (B b ∧ b < w.heap.size) ∧ Soft w b) fun k hk hd => ⟨⟨hd.1, hk⟩, hd.2⟩).frame hf fun k hk => hS k hk.1.1).mono fun k _ hk => ⟨hk.1.1, hf.soft hk.1.2 (hS k hk.1.1) hk.2⟩
def VOwn (e base : Nat) (w : World) (l : List V) (v : Value) : Prop :=
 ∃ xs : List Value, w.ownsRow base e 4 v l.length xs ∧ ∀ i x, l[i]? = some x → ∃ u, VIn (fun b => base ≤ b ∧ b < w.heap.size ∧ v.ownBlock ≠ some b ∧ Soft w b) w x u ∧ u.size = 4 ∧ ∀ j, j < 4 → xs[i * 4 + j]? = u[j]?
theorem VOwn.nil (e base : Nat) (w : World) : VOwn e base w [] (.slice none 0 0) := ⟨[], World.ownsRow_nil _ _ _ _, fun i x h => by simp at h⟩
theorem VOwn.snoc {e base : Nat} {w w' : World} {l : List V} {v v' : Value} {xs : List Value} {x : V} {u : Array Value}
  (ho : w.ownsRow base e 4 v l.length xs) (hx : ∀ i x, l[i]? = some x → ∃ u, VIn (fun b => base ≤ b ∧ b < w.heap.size ∧ v.ownBlock ≠ some b ∧ Soft w b) w x u ∧ u.size = 4 ∧ ∀ j, j < 4 → xs[i * 4 + j]? = u[j]?)
  (ho' : w'.ownsRow base e 4 v' (l.length + 1) (xs ++ u.toList)) (hf : Fr (fun k => some k = v.ownBlock) w w') (hn : ∀ k, v'.ownBlock = some k → v.ownBlock = some k ∨ w.heap.size ≤ k)
  (hv : VIn (fun b => base ≤ b ∧ b < w.heap.size ∧ v.ownBlock ≠ some b ∧ Soft w b) w x u) (h4 : u.size = 4) : VOwn e base w' (l ++ [x]) v' := by
 have hlen : xs.length = l.length * 4 := ho.1
 have key : ∀ {y : V} {c : Array Value}, VIn (fun b => base ≤ b ∧ b < w.heap.size ∧ v.ownBlock ≠ some b ∧ Soft w b) w y c → VIn (fun b => base ≤ b ∧ b < w'.heap.size ∧ v'.ownBlock ≠ some b ∧ Soft w' b) w' y c := fun h =>
  (h.frame hf fun k hk e => hk.2.2.1 e.symm).mono fun k _ hk => ⟨hk.1, Nat.lt_of_lt_of_le hk.2.1 hf.size, fun e => by
   rcases hn k e with h1 | h1
   ·exact hk.2.2.1 h1
   ·have := hk.2.1; omega, hf.soft hk.2.1 (fun e => hk.2.2.1 e.symm) hk.2.2.2⟩
 refine ⟨xs ++ u.toList, by simpa using ho', fun i y hi => ?_⟩
 by_cases hlt : i < l.length
 ·rw [List.getElem?_append_left hlt] at hi
  obtain ⟨c, hc, h4c, hj⟩ := hx i y hi
  refine ⟨c, key hc, h4c, fun j hj4 => ?_⟩
  rw [List.getElem?_append_left (by omega)]
  exact hj j hj4
 ·have hil := (List.getElem?_eq_some_iff.1 hi).1
  have : i = l.length := by simp at hil; omega
  subst this
  rw [List.getElem?_append_right (Nat.le_refl _)] at hi
  simp at hi
  subst hi
  refine ⟨u, key hv, h4, fun j hj4 => ?_⟩
  rw [List.getElem?_append_right (by omega)]
  simp [hlen]
theorem VOwn.close {e base : Nat} {w : World} {l : List V} {v : Value} (h : VOwn e base w l v) : VL (fun b => base ≤ b ∧ Soft w b) w l v := by
 obtain ⟨xs, ho, hx⟩ := h
 have hmono : ∀ {y : V} {c : Array Value}, VIn (fun b => base ≤ b ∧ b < w.heap.size ∧ v.ownBlock ≠ some b ∧ Soft w b) w y c → VIn (fun b => base ≤ b ∧ Soft w b) w y c := fun h => h.mono fun k _ hk => ⟨hk.1, hk.2.2.2⟩
 obtain ⟨us, hus⟩ : ∃ us : Nat → Array Value, ∀ i x, l[i]? = some x → VIn (fun b => base ≤ b ∧ Soft w b) w x (us i) ∧ (us i).size = 4 ∧ ∀ j, j < 4 → xs[i * 4 + j]? = (us i)[j]? := by
  classical
  refine ⟨fun i => if h : ∃ u, ∀ x, l[i]? = some x → VIn (fun b => base ≤ b ∧ Soft w b) w x u ∧ u.size = 4 ∧ ∀ j, j < 4 → xs[i * 4 + j]? = u[j]? then h.choose else #[], fun i x hi => ?_⟩
  have h : ∃ u, ∀ x, l[i]? = some x → VIn (fun b => base ≤ b ∧ Soft w b) w x u ∧ u.size = 4 ∧ ∀ j, j < 4 → xs[i * 4 + j]? = u[j]? := by
   obtain ⟨u, h1, h2⟩ := hx i x hi
   exact ⟨u, fun x' hx' => by rw [hi] at hx'; obtain rfl := Option.some.inj hx'; exact ⟨hmono h1, h2⟩⟩
  simp only [dif_pos h]
  exact h.choose_spec x hi
 rcases ho.2 with ⟨rfl, h0⟩ | ⟨g, cap, cur, rfl, hb, hg, h1, h2, h3, ht⟩
 ·exact ⟨none, 0, us, by rw [h0], by omega, by simp, fun _ => rfl, fun i hi => by omega, fun i x hi => (hus i x hi).1⟩
 ·refine ⟨some ⟨g, 0, none⟩, cap, us, rfl, h1, h2, (fun h => by cases h), fun i hi => ?_, fun i x hi => (hus i x hi).1⟩
  obtain ⟨_, h4, hj⟩ := hus i _ (List.getElem?_eq_getElem hi)
  refine ⟨g, 0, rfl, ⟨hb, fun i => frozen_of_row w g i _ _ hg⟩, h4, fun j hj4 => ?_⟩
  rw [← hj j hj4]
  have hc := ho.cells (g := g) rfl
  have hlen : xs.length = l.length * 4 := ho.1
  have hlt : i * 4 + j < xs.length := by omega
  have h5 := hc (i * 4 + j) _ (List.getElem?_eq_getElem hlt)
  have : (⟨g, 0, none⟩ : Addr).add (i * 4 + j) = ⟨g, 0 + i * 4 + j, none⟩ := by unfold Addr.add; split <;> simp_all [Nat.add_assoc]
  rw [← this, h5, List.getElem?_eq_getElem hlt]
end
section
open Go.RowKit
theorem len_le_sizeL : ∀ (l : List V), l.length ≤ sizeL l
 | [] => by simp [sizeL]
 | x :: r => by
  have := len_le_sizeL r
  have := V.size_eq x
  simp only [List.length_cons, sizeL]
  omega
theorem take_snoc' {α : Type} {l : List α} {k : Nat} {y : α} (h : l[k]? = some y) : l.take (k + 1) = l.take k ++ [y] := by
 rw [List.take_add_one, h]
 rfl
theorem Tryz.info_val : (Tryz.prog.info? 44).map (fun i => (i.zero, i.size, i.bytes)) = some (some (.agg #[.int .i64 0, .int .i64 0, .string ⟨#[]⟩, .slice none 0 0]), 4, 56) := by kernel_rfl
theorem own_base {w : World} {b b' e size n : Nat} {v : Value} {xs : List Value} (h : w.ownsRow b e size v n xs) (hb : b' ≤ b) : w.ownsRow b' e size v n xs := by
 refine ⟨h.1, h.2.imp id ?_⟩
 rintro ⟨g, cap, cur, h1, h2, r⟩
 exact ⟨g, cap, cur, h1, Nat.le_trans hb h2, r⟩
set_option maxHeartbeats 1600000 in
theorem vclone_any : ∀ (N : Nat) (x : V), x.size ≤ N → x.size ≤ 1099511627776 → ∀ (D : Nat → Prop) (w : World) (u : Array Value), VIn D w x u →
  Calls Tryz.prog 91 #[.agg u] w fun e w' => ∃ u', e = .returned (.agg u') ∧ Fr (fun _ => False) w w' ∧ VIn (fun b => w.heap.size ≤ b ∧ Soft w' b) w' x u' ∧ ∃ xs, w'.ownsRow w.heap.size 44 4 (u'.getD 3 undef) x.l.length xs := by
 intro N
 induction N with
 | zero =>
  intro x h
  rw [V.size_eq] at h
  omega
 | succ N ih =>
  intro x hN hM D w u h
  have hs := V.size_eq x
  have hll := len_le_sizeL x.l
  have hx : x = .mk x.k x.n x.s x.l := by cases x; rfl
  obtain ⟨v, rfl, a, cap, us, rfl, hc, hm, hn, hb, hi⟩ := h.open
  have hlm : x.l.length ≤ 1099511627776 := by omega
  generalize x.k = kk at *
  generalize x.n = nn at *
  generalize x.s = ss at *
  generalize x.l = l at *
  have HB := hid hb; have HI := hid hi; have HS := hid hs; have HM := hid hM; have HN := hid hN; have HX := hid hx
  clear hb hi hs hM hN h hn hll hx
  go_enter Tryz.func91, Tryz.ntmps91
  go_wp2
  have hb1 : ((w.alloc (.cells #[.int .i64 kk, .int .i64 nn, .string ss, .slice a l.length cap] 44)).alloc (.cells #[.int .i64 0, .int .i64 0, .string ⟨#[]⟩, .slice none 0 0] 44)).heap[w.heap.size]? = some (.cells #[.int .i64 kk, .int .i64 nn, .string ss, .slice a l.length cap] 44) := ((Fr.refl (fun _ => False) _).alloc _).heap (heap_alloc_new w _) not_false
  have hb2 : ((w.alloc (.cells #[.int .i64 kk, .int .i64 nn, .string ss, .slice a l.length cap] 44)).alloc (.cells #[.int .i64 0, .int .i64 0, .string ⟨#[]⟩, .slice none 0 0] 44)).heap[w.heap.size + 1]? = some (.cells #[.int .i64 0, .int .i64 0, .string ⟨#[]⟩, .slice none 0 0] 44) := by
   have := heap_alloc_new (w.alloc (.cells #[.int .i64 kk, .int .i64 nn, .string ss, .slice a l.length cap] 44)) (.cells #[.int .i64 0, .int .i64 0, .string ⟨#[]⟩, .slice none 0 0] 44)
   simpa using this
  have hF : Fr (fun _ => False) w ((w.alloc (.cells #[.int .i64 kk, .int .i64 nn, .string ss, .slice a l.length cap] 44)).alloc (.cells #[.int .i64 0, .int .i64 0, .string ⟨#[]⟩, .slice none 0 0] 44)) := ((Fr.refl _ _).alloc _).alloc _
  have hsz : ((w.alloc (.cells #[.int .i64 kk, .int .i64 nn, .string ss, .slice a l.length cap] 44)).alloc (.cells #[.int .i64 0, .int .i64 0, .string ⟨#[]⟩, .slice none 0 0] 44)).heap.size = w.heap.size + 2 := by simp
  generalize (w.alloc (.cells #[.int .i64 kk, .int .i64 nn, .string ss, .slice a l.length cap] 44)).alloc (.cells #[.int .i64 0, .int .i64 0, .string ⟨#[]⟩, .slice none 0 0] 44) = W at *
  have H1 := hid hb1; have H2 := hid hb2; have HF0 := hid hF; have HZ := hid hsz
  clear hb1 hb2 hF hsz
  go_loopw [3, 9] (fun v i wr => ∃ k : Nat, k ≤ l.length ∧ i = .int .i64 k ∧ VOwn 44 (w.heap.size + 2) wr (l.take k) v ∧ Fr (fun _ => False) W wr) (fun _ i _ => l.length - (intOf i).toNat)
  case atStart => exact ⟨0, Nat.zero_le _, rfl, by rw [List.take_zero]; exact VOwn.nil _ _ _, Fr.refl _ _⟩
  case round =>
   obtain ⟨k, hk, rfl, hO, hf⟩ := hrel
   by_cases hlt : k < l.length
   ·obtain ⟨b, o, y, a', c', rfl, -, hy, hv, e0, e1, e2, e3⟩ := VL.elem HB.out HI.out k hlt
    have hf0 := HF0.out.trans' hf
    replace e0 := hf0.cell e0 not_false
    replace e1 := hf0.cell e1 not_false
    replace e2 := hf0.cell e2 not_false
    replace e3 := hf0.cell e3 not_false
    have hv2 := fun o' => hv.frame (hf0.alloc o') (fun _ _ => not_false)
    have t2 := sizeL_mem hy
    have t4 := take_snoc' hy
    have hy1 : y.size ≤ N := by have := HS.out; have := HN.out; omega
    have hy2 : y.size ≤ 1099511627776 := by have := HS.out; have := HM.out; omega
    have hc := ih y hy1 hy2 D
    have htl : (l.take k).length = k := by simp; omega
    clear hv t2 hy1 hy2 hy
    have HT := hid t4; have HFr := hid hf; have HV := hid hv2; have HC := hid hc; have HO := hid hO; have HL := hid htl
    clear t4 hf hv2 hc hO htl hf0
    go_wp2_with (fail)
    refine (HC.out _ _ (HV.out _)).mono ?_
    rintro e w2 ⟨u', rfl, hf2, hv', -⟩
    obtain ⟨v', rfl, a2, c2, us2, rfl, _⟩ := hv'.open
    have HF2 := hid ((Fr.refl (fun _ => False) wr).alloc _ |>.trans' hf2)
    have HV2 := hid hv'
    obtain ⟨xs, ho, hxs⟩ := HO.out
    have HW := hid ho
    have HXS := hid hxs
    clear hf2 hv' ho hxs
    have hF3 : Fr (fun _ => False) wr (w2.alloc (.cells #[.int .i64 y.k, .int .i64 y.n, .string y.s, .slice a2 y.l.length c2] 44)) := HF2.out.alloc _
    have hown := hF3.own HW.out (fun _ _ => id)
    have hn1 : (l.take k).length + 1 ≤ 1099511627776 := by rw [HL.out]; omega
    have hbs : w.heap.size + 2 ≤ (w2.alloc (.cells #[.int .i64 y.k, .int .i64 y.n, .string y.s, .slice a2 y.l.length c2] 44)).heap.size := by
     have := HZ.out; have := HFr.out.size; have := hF3.size; omega
    have HF3 := hid hF3; have HBS := hid hbs; have HN1 := hid hn1; have HOW := hid hown
    clear hF3 hown hbs hn1
    go_wp2_with (at_builtin; go_must (refine wpList_appendR rfl (.tmp 13) (.tmp 16) 42 rfl 44 (.agg #[.int .i64 0, .int .i64 0, .string ⟨#[]⟩, .slice none 0 0]) 4 56 Tryz.underlying42 Tryz.info_val rfl (by decide) _ rfl (w.heap.size + 2) (l.take k).length xs HOW.out w2.heap.size 1 [.int .i64 y.k, .int .i64 y.n, .string y.s, .slice a2 y.l.length c2] rfl rfl ?c1 ?c3 HN1.out (by decide) HBS.out ?_))
    case c1 => exact cells_new4 w2 #[.int .i64 y.k, .int .i64 y.n, .string y.s, .slice a2 y.l.length c2] _ _
    case c3 => intro q hq; simp at hq; rcases hq with rfl | rfl | rfl | rfl <;> rfl
    intro g cp w4 ho4 hf4 hn4
    have hO4 : VOwn 44 (w.heap.size + 2) w4 (l.take (k + 1)) (.slice (some ⟨g, 0, none⟩) (k + 1) cp) := by
     rw [HT.out]
     refine VOwn.snoc (u := #[.int .i64 y.k, .int .i64 y.n, .string y.s, .slice a2 y.l.length c2]) HOW.out (fun i x hi => ?_) (by rw [HL.out]; exact ho4) hf4 (fun q hq => ?_) ?_ rfl
     ·obtain ⟨u, hu, r⟩ := HXS.out i x hi
      exact ⟨u, (hu.frame HF3.out fun _ _ => id).mono fun q _ hq => ⟨hq.1, Nat.lt_of_lt_of_le hq.2.1 HF3.out.size, hq.2.2.1, HF3.out.soft hq.2.1 id hq.2.2.2⟩, r⟩
     ·simp only [Value.ownBlock, Option.some.injEq] at hq
      subst hq
      simpa using hn4
     ·refine (HV2.out.soft ((Fr.refl (fun _ => False) w2).alloc _) fun _ _ => id).mono fun q hq hq2 => ⟨?_, hq, fun e => ?_, hq2.2⟩
      ·have := HZ.out; have := HFr.out.size; have hq3 := hq2.1; simp at hq3; omega
      ·have := (HW.out.lt q e).2; have hq3 := hq2.1; simp at hq3; omega
    have hf5 : Fr (fun _ => False) W w4 := (HFr.out.trans' HF3.out).trans hf4 (fun _ _ => id) (fun q hq e => by have h1 := (HW.out.lt q e.symm).1; have h2 := HZ.out; omega)
    clear ho4 hf4 hn4
    have HO4 := hid hO4; have HF5 := hid hf5
    clear hO4 hf5
    go_wp2
    go_roundw
    case rel => exact ⟨k + 1, by omega, by go_num, HO4.out, HF5.out⟩
    case measure => simp [intOf]; omega
   ·have hkl : l.take k = l := List.take_of_length_le (by omega)
    rw [hkl] at hO
    have hVL := hO.close
    obtain ⟨xs, ho, _⟩ := hO
    obtain ⟨a9, c9, rfl, _⟩ := own_len ho
    have hb1 := hf.heap H1.out not_false
    have hb2 := hf.heap H2.out not_false
    clear hkl
    have HVL := hid hVL; have HFr := hid hf
    clear hVL hf
    have d0 : wr.cell? ⟨w.heap.size, 0, none⟩ = some (.int .i64 kk) := by rw [cell_of_row wr _ 0 _ _ _ hb1]; rfl
    have d1 : wr.cell? ⟨w.heap.size, 1, none⟩ = some (.int .i64 nn) := by rw [cell_of_row wr _ 1 _ _ _ hb1]; rfl
    have d2 : wr.cell? ⟨w.heap.size, 2, none⟩ = some (.string ss) := by rw [cell_of_row wr _ 2 _ _ _ hb1]; rfl
    have d3 : wr.cell? ⟨w.heap.size, 3, none⟩ = some (.slice a l.length cap) := by rw [cell_of_row wr _ 3 _ _ _ hb1]; rfl
    have e0 : wr.cell? ⟨w.heap.size + 1, 0, none⟩ = some (.int .i64 0) := by rw [cell_of_row wr _ 0 _ _ _ hb2]; rfl
    have e1 : wr.cell? ⟨w.heap.size + 1, 1, none⟩ = some (.int .i64 0) := by rw [cell_of_row wr _ 1 _ _ _ hb2]; rfl
    have e2 : wr.cell? ⟨w.heap.size + 1, 2, none⟩ = some (.string ⟨#[]⟩) := by rw [cell_of_row wr _ 2 _ _ _ hb2]; rfl
    have e3 : wr.cell? ⟨w.heap.size + 1, 3, none⟩ = some (.slice none 0 0) := by rw [cell_of_row wr _ 3 _ _ _ hb2]; rfl
    have F1 : ∀ i, wr.frozen? ⟨w.heap.size, i, none⟩ = false := fun i => frozen_of_row wr _ i _ _ hb1
    have F2 : ∀ i, wr.frozen? ⟨w.heap.size + 1, i, none⟩ = false := fun i => frozen_of_row wr _ i _ _ hb2
    have HB1 := hid hb1; have HB2 := hid hb2; have HO := hid ho
    clear hb1 hb2 ho
    go_wp2
    have hR := setCell_row 3 (.slice a9 l.length c9) (setCell_row 2 (.string ss) (setCell_row 1 (.int .i64 nn) (setCell_row 0 (.int .i64 kk) ((Below.heap_setCell wr ⟨w.heap.size, 3, none⟩ (.slice a9 l.length c9) (w.heap.size + 1) (by simp)).trans HB2.out))))
    simp only [List.setIfInBounds_toArray, List.set_cons_zero, List.set_cons_succ] at hR
    have hfw := HF0.out.trans' HFr.out
    have hf8 : Fr (fun q => q = w.heap.size ∨ q = w.heap.size + 1) wr (((((wr.setCell ⟨w.heap.size, 3, none⟩ (.slice a9 l.length c9)).setCell ⟨w.heap.size + 1, 0, none⟩ (.int .i64 kk)).setCell ⟨w.heap.size + 1, 1, none⟩ (.int .i64 nn)).setCell ⟨w.heap.size + 1, 2, none⟩ (.string ss)).setCell ⟨w.heap.size + 1, 3, none⟩ (.slice a9 l.length c9)) :=
     (((((Fr.refl _ _).setCell (.inl (.inl rfl)) _).setCell (.inl (.inr rfl)) _).setCell (.inl (.inr rfl)) _).setCell (.inl (.inr rfl)) _).setCell (.inl (.inr rfl)) _
    refine bodyPost_ret (results_cell_row rfl _ _ (w.heap.size + 1) _ _ _ _ rfl hR Tryz.underlying44 rfl (by kernel_rfl)) rfl ?_
    refine ⟨_, rfl, hfw.trans hf8 (fun _ _ => id) (fun q hq e => by omega), ?_⟩
    rw [HX.out]
    exact ⟨((HVL.out.close kk nn ss).soft hf8 (fun q hq e => by omega)).mono fun q _ hq => ⟨by omega, hq.2⟩, _, own_base (hf8.own HO.out (fun q hq e => by have := (HO.out.lt q hq).1; omega)) (by omega)⟩
end
section
section
variable {P : Program} {ops : Array Oper} {C : World → Prop} {Q1 : Act → Prop} {a : Act} {o : Oper} {r : List Oper}
theorem q_sym (c : Bool) (v : Value) (hg : Region.wanted o (yielded ops a.tmps) = c) (hy : c = true → ∀ w, C w → (execOp a.eval o).run P w = .ok (.value v) w)
  (h : wpQuiet P ops C Q1 r (a.put o.dst (cond c v undef))) : wpQuiet P ops C Q1 (o :: r) a := by
 cases c
 ·exact q_pass hg h
 ·exact q_take v hg (hy rfl) h
theorem q_symcall (c : Bool) (v : Value) (f : FuncId) (args : Array Value) (hg : Region.wanted o (yielded ops a.tmps) = c)
  (hr : c = true → ∀ w, C w → (execOp a.eval o).run P w = .ok (.enter f args) w) (hv : c = true → ∀ w, C w → Calls P f args w fun e w' => e = .returned v ∧ C w') (h : wpQuiet P ops C Q1 r (a.put o.dst (cond c v undef))) : wpQuiet P ops C Q1 (o :: r) a := by
 cases c
 ·exact q_pass hg h
 ·exact q_call f args hg (hr rfl) ⟨v, hv rfl, h⟩
end
end
end Go.Proofs.YtbegahbagnflnaaGreatDoor
