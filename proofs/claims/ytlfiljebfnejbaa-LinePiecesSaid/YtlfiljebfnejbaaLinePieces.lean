/- LinePieces returns true: the walk. -/
import Derived.Test.YtlfiljebfnejbaaLineFirst
import Derived.Test.YtlfiljebfnejbaaNumber
namespace Go.Proofs.Ytlfiljebfnejbaa
open Go.RowKit

theorem feed_append (m : Int) (s : List (List UInt8) × List UInt8) (a b : List UInt8) : feed m s (a ++ b) = feed m (feed m s a) b := by simp [feed]
theorem feed_from (m : Int) (o : List (List UInt8)) (buf l : List UInt8) : feed m (o, buf) l = (o ++ (feed m ([], buf) l).1, (feed m ([], buf) l).2) := by
  induction l generalizing o buf with
  | nil => simp [feed]
  | cons c l ih =>
    have h1 : ∀ s : List (List UInt8) × List UInt8, feed m s (c :: l) = feed m (feedStep m s c) l := fun s => rfl
    rw [h1, h1]
    have h2 : feedStep m (o, buf) c = (o ++ (feedStep m ([], buf) c).1, (feedStep m ([], buf) c).2) := by
      unfold feedStep
      split
      · simp
      · split <;> simp
    rw [h2, ih]
    have h3 := ih (feedStep m ([], buf) c).1 (feedStep m ([], buf) c).2
    rw [show ((feedStep m ([], buf) c).1, (feedStep m ([], buf) c).2) = feedStep m ([], buf) c from rfl] at h3
    rw [h3]
    simp
theorem feed_short (m : Int) (hm : 0 ≤ m) (l : List UInt8) : ∀ (s : List (List UInt8) × List UInt8), (∀ x ∈ s.1, (x.length : Int) ≤ m) → (s.2.length : Int) ≤ m → (∀ x ∈ (feed m s l).1, (x.length : Int) ≤ m) ∧ ((feed m s l).2.length : Int) ≤ m := by
  induction l with
  | nil => intro s h1 h2; exact ⟨h1, h2⟩
  | cons c l ih =>
    intro s h1 h2
    have h : feed m s (c :: l) = feed m (feedStep m s c) l := rfl
    rw [h]
    apply ih
    · unfold feedStep
      split
      · intro x hx
        rcases List.mem_append.1 hx with hx | hx
        · exact h1 x hx
        · simp at hx; subst hx; exact h2
      · split
        · exact h1
        · exact h1
    · unfold feedStep
      split
      · simpa using hm
      · split
        · rename_i hh; simp; omega
        · exact h2

/-- Two readers; what came out of each. -/
structure PAt (w wr : World) (X Y : Nat) (m : Int) (bx by_ all got : Value) (sx sy : List (List UInt8) × List UInt8) : Prop where
  x : InAt 39 wr X m bx sx.2
  y : InAt 39 wr Y m by_ sy.2
  al : wr.ownsRow w.heap.size 9 1 all sx.1.length (sV (txt sx.1))
  gt : wr.ownsRow w.heap.size 9 1 got sy.1.length (sV (txt sy.1))
  fr : Fr (fun _ => False) w wr
  xw : ∀ k, InS X bx k → w.heap.size ≤ k
  yw : ∀ k, InS Y by_ k → w.heap.size ≤ k
  nexy : ∀ k, InS X bx k → ¬ InS Y by_ k
  neall : ∀ k, all.ownBlock = some k → ¬ got.ownBlock = some k

/-- A row of texts lies elsewhere than a reader's memory. -/
theorem InAt.ne_row {w : World} {B : Nat} {m : Int} {bv v : Value} {buf : List UInt8} {base n : Nat} {xs : List Value} (h : InAt 39 w B m bv buf) (hr : w.ownsRow base 9 1 v n xs) : ∀ k, v.ownBlock = some k → ¬ InS B bv k := by
  rintro k hk (rfl | e)
  · exact own_ne_cells hr h.heap (by decide) k hk rfl
  · exact own_ne hr h.own (by decide) k hk e

theorem PAt.feedY {w wr w2 : World} {X Y : Nat} {m : Int} {bx by_ by' all got ov : Value} {sx sy st : List (List UInt8) × List UInt8} (h : PAt w wr X Y m bx by_ all got sx sy)
    (hF : FeedAt 39 wr w2 Y m by_ by' ov st) : PAt w w2 X Y m bx by' all got sx (sy.1, st.2) ∧ (∀ k, ov.ownBlock = some k → wr.heap.size ≤ k) := by
  have hby : ∀ k, InS Y by' k → InS Y by_ k ∨ wr.heap.size ≤ k := by
    rintro k (rfl | e)
    · exact .inl (.inl rfl)
    · rcases hF.blk k e.symm with h | h
      · exact .inl (.inr h.symm)
      · exact .inr h
  refine ⟨⟨h.x.frame hF.fr (fun hs => h.nexy _ (.inl rfl) hs) (fun k hk hs => h.nexy k (.inr hk.symm) hs), hF.at_, hF.fr.own h.al (fun k hk hs => h.y.ne_row h.al k hk hs), hF.fr.own h.gt (fun k hk hs => h.y.ne_row h.gt k hk hs),
    h.fr.trans hF.fr (fun _ _ h => h) (fun k hk hs => by have := h.yw k hs; omega), h.xw, fun k hk => ?_, fun k hk hy => ?_, h.neall⟩, fun k hk => (hF.out.lt k hk).1⟩
  · rcases hby k hk with h' | h'
    · exact h.yw k h'
    · have := h.fr.size; omega
  · rcases hby k hy with h' | h'
    · exact h.nexy k hk h'
    · have := h.x.lt k hk; omega

theorem PAt.push {w w2 w3 : World} {X Y : Nat} {m : Int} {bx by_ all got got' : Value} {sx sy : List (List UInt8) × List UInt8} {out : List (List UInt8)} (h : PAt w w2 X Y m bx by_ all got sx sy)
    (ho : w3.ownsRow w.heap.size 9 1 got' (sy.1.length + out.length) (sV (txt sy.1) ++ sV (txt out))) (hf : Fr (fun k => some k = got.ownBlock) w2 w3) (hb : ∀ k, got'.ownBlock = some k → got.ownBlock = some k ∨ w2.heap.size ≤ k) :
    PAt w w3 X Y m bx by_ all got' sx (sy.1 ++ out, sy.2) := by
  refine ⟨h.x.frame hf (fun hs => h.x.ne_row h.gt _ hs.symm (.inl rfl)) (fun k hk hs => h.x.ne_row h.gt k hs.symm (.inr hk.symm)), h.y.frame hf (fun hs => h.y.ne_row h.gt _ hs.symm (.inl rfl)) (fun k hk hs => h.y.ne_row h.gt k hs.symm (.inr hk.symm)),
    hf.own h.al (fun k hk hs => h.neall k hk hs.symm), by simpa [sV, txt] using ho, h.fr.trans hf (fun _ _ h => h) (fun k hk hs => absurd (h.gt.lt k hs.symm).1 (by omega)), h.xw, h.yw, h.nexy, fun k hk hg => ?_⟩
  rcases hb k hg with h' | h'
  · exact h.neall k hk h'
  · have := (h.al.lt k hk).2; omega

set_option maxRecDepth 100000 in
set_option maxHeartbeats 1600000 in
theorem linePieces_any (m : Int) (v cv : Value) (l : List UInt8) (ns : List Int) (w : World) (hm1 : -9223372036854775808 ≤ m) (hm2 : m ≤ 9223372036854775807) (hv : Bs (fun _ => True) w v l)
    (hc : Sl (fun _ => True) w cv ns.length (fun k u => u = .int .i64 (ns.getD k 0) ∧ -9223372036854775808 ≤ ns.getD k 0 ∧ ns.getD k 0 ≤ 9223372036854775807)) :
    Calls Try.prog 4 #[v, cv, .int .i64 m] w fun e w' => e = .returned (.bool true) ∧ Fr (fun _ => False) w w' := by
  have HV := hid hv
  obtain ⟨a, c, rfl, h1, h2, hk⟩ := hv
  obtain ⟨ca, cc, rfl, h3, h4, hck⟩ := hc
  have hl1 : l.length ≤ 9223372036854775807 := Nat.le_trans h1 h2
  have hl2 : ns.length ≤ 9223372036854775807 := Nat.le_trans h3 h4
  have hc1 : (l.length : Int) ≤ c := by omega
  have hc2 : (c : Int) ≤ 9223372036854775807 := by unfold maxLen at h2; omega
  clear h1 h2 h3 h4 hk
  have HK := hid hck; clear hck
  by_cases hl : 300 < l.length
  · go_enter Try.func4, Try.ntmps4
    go_wp2_with (go_at_call 5; refine (first_any _).mono ?_; rintro e w1 ⟨rfl, hf⟩)
    go_ret
    exact ⟨rfl, hf⟩
  by_cases hn : 20 < ns.length
  · have hd : decide (300 < (l.length : Int)) = false := by rw [decide_eq_false_iff_not]; omega
    go_enter Try.func4, Try.ntmps4
    go_wp2_with (go_at_call 5; refine (first_any _).mono ?_; rintro e w1 ⟨rfl, hf⟩)
    go_ret
    exact ⟨rfl, hf⟩
  have hd : decide (300 < (l.length : Int)) = false := by rw [decide_eq_false_iff_not]; omega
  have hd2 : decide (20 < (ns.length : Int)) = false := by rw [decide_eq_false_iff_not]; omega
  have hq1 : 0 ≤ m % 100 := by omega
  have hq2 : m % 100 < 100 := by omega
  go_enter Try.func4, Try.ntmps4
  go_wp2_with (first | (go_at_call 5; refine (first_any _).mono ?_; rintro e w1 ⟨rfl, hf⟩) | (go_at_call 12; refine (number_any m 100 _ (by omega) (by omega) hm1 hm2).mono ?_; rintro e w' ⟨rfl, rfl⟩; generalize m % 100 = q at *))
  have hbn : bnd (q + 1) 512 = q + 1 := by unfold bnd; rw [if_neg (by omega), if_neg (by omega)]
  go_wp2_with (go_at_call 6; refine (newIn_any _ _).mono ?_; rintro e w' ⟨rfl, rfl⟩)
  have i1 : InAt 39 ((w1.alloc (.cells #[.int .i64 (q + 1), .slice none 0 0] 39)).alloc (.cells #[.int .i64 (q + 1), .slice none 0 0] 39)) w1.heap.size (q + 1) (.slice none 0 0) [] := (in_fresh w1 _ _).frame ((Fr.refl (fun _ => False) _).alloc _) id (fun _ _ => id)
  have i2 : InAt 39 ((w1.alloc (.cells #[.int .i64 (q + 1), .slice none 0 0] 39)).alloc (.cells #[.int .i64 (q + 1), .slice none 0 0] 39)) (w1.heap.size + 1) (q + 1) (.slice none 0 0) [] := by
    have := in_fresh (w1.alloc (.cells #[.int .i64 (q + 1), .slice none 0 0] 39)) (q + 1) 39
    simpa using this
  have f2 := (hf.alloc (.cells #[.int .i64 (q + 1), .slice none 0 0] 39)).alloc (.cells #[.int .i64 (q + 1), .slice none 0 0] 39)
  have bv := ((HV.out.mono (E := fun k => k < w.heap.size) (fun k h _ => h)).frame f2 (fun _ _ => id))
  have hsz := hf.size
  have HSZ := hid hsz; clear hsz
  refine (feed_any (fun k => k < w.heap.size) w1.heap.size (q + 1) (.slice none 0 0) (.slice a l.length c) [] l _ i1 bv (fun k hk hs => by
    have := HSZ.out
    rcases hs with hs | hs
    · omega
    · simp [Value.ownBlock] at hs) (by simp; omega)).mono ?_
  rintro e w2 ⟨all, bx, rfl, hF⟩
  have hP : PAt w w2 w1.heap.size (w1.heap.size + 1) (q + 1) bx (.slice none 0 0) all (.slice none 0 0) (feed (q + 1) ([], []) l) ([], []) := by
    have hs1 := HSZ.out
    have hb := hF.blk
    have hfr := hF.fr
    refine ⟨hF.at_, i2.frame hF.fr ?_ (fun k hk => by simp [Value.ownBlock] at hk), own_rebase hF.out (fun k hk => ?_), World.ownsRow_nil _ _ _ _, f2.trans hF.fr (fun _ _ h => h) ?_, ?_, ?_, ?_, ?_⟩
    · rintro (h | h)
      · omega
      · simp [Value.ownBlock] at h
    · have := (hF.out.lt k hk).1; simp at this; omega
    · rintro k hk (h | h)
      · omega
      · simp [Value.ownBlock] at h
    · rintro k (h | h)
      · omega
      · rcases hb k h.symm with h | h
        · simp [Value.ownBlock] at h
        · simp at h; omega
    · rintro k (h | h)
      · omega
      · simp [Value.ownBlock] at h
    · rintro k (h | h) (h' | h')
      · omega
      · simp [Value.ownBlock] at h'
      · rcases hb k h.symm with h | h
        · simp [Value.ownBlock] at h
        · simp at h; omega
      · simp [Value.ownBlock] at h'
    · intro k _ h
      simp [Value.ownBlock] at h
  clear hF i1 i2 f2 bv hf hbn
  generalize hX : w1.heap.size = X at *
  clear hX HSZ
  have HP := hid hP; clear hP
  generalize hsx : feed (q + 1) ([], []) l = sx at *
  have HX := hid hsx; clear hsx
  obtain ⟨aa, ac, rfl, _⟩ := own_len HP.out.al
  have hsl : sx.1.length ≤ 300 := by
    have := (feed_len (q + 1) ([], []) l).1
    rw [HX.out] at this
    simp at this; omega
  go_wp2
  go_loopw [11, 12, 13] (fun got at_ i wr => ∃ (k n : Nat) (by_ : Value), k ≤ ns.length ∧ i = .int .i64 k ∧ n ≤ l.length ∧ at_ = .int .i64 n ∧
    PAt w wr X (X + 1) (q + 1) bx by_ (.slice aa sx.1.length ac) got sx (feed (q + 1) ([], []) (l.take n))) (fun _ _ i _ => ns.length - (intOf i).toNat)
  case atStart => exact ⟨0, 0, _, Nat.zero_le _, rfl, Nat.zero_le _, rfl, HP.out⟩
  case round =>
    clear HP
    obtain ⟨k, n, by_, hk, rfl, hn, rfl, hP⟩ := hrel
    have HP := hid hP; clear hP
    by_cases hlt : k < ns.length
    · obtain ⟨b, o, u, rfl, _, hcc, hu, hu1, hu2⟩ := HK.out k hlt
      have c1 := HP.out.fr.cell hcc id
      rw [hu] at c1
      clear hu hcc
      generalize ns.getD k 0 = z at *
      have hz1 : 0 ≤ z % 40 := by omega
      have hz2 : z % 40 < 40 := by omega
      go_wp2_with (go_at_call 12; refine (number_any z 40 _ (by omega) (by omega) hu1 hu2).mono ?_; rintro e w' ⟨rfl, rfl⟩; generalize z % 40 = zz at *; obtain ⟨y, rfl⟩ := Int.eq_ofNat_of_zero_le hz1)
      all_goals
        have hbs := (HV.out.mono (E := fun k => k < w.heap.size) (fun k h _ => h)).frame HP.out.fr (fun _ _ => id)
        obtain ⟨j, hj⟩ : ∃ j, j = min l.length (n + y) := ⟨_, rfl⟩
        have hj1 : n ≤ j := by omega
        have hj2 : j ≤ l.length := by omega
        refine Calls.mono (feed_any (fun k => k < w.heap.size) (X + 1) (q + 1) by_ _ (feed (q + 1) ([], []) (l.take n)).2 ((l.take j).drop n) wr HP.out.y ?_ ?_ ?_) ?_
        · exact Bs.sub hbs n j hj1 hj2 (by omega) (by omega) (by simp [*])
        · intro k hk hs
          have := HP.out.yw k hs
          omega
        · have := (feed_len (q + 1) ([], []) (l.take n)).2
          simp at this ⊢
          omega
        rintro e w3 ⟨ov, by', rfl, hF⟩
        obtain ⟨hP2, hov⟩ := HP.out.feedY hF
        have hout := hF.out
        obtain ⟨ao, oc, rfl, ho1, ho2, ho3⟩ := own_src hout
        clear hF hbs
        have HJ := hid hj; clear hj
        have HP2 := hid hP2; clear hP2
        have HO3 := hid ho3; clear ho3
        have HOV := hid hov; clear hov
        have HOUT := hid hout; clear hout
        have hst : feed (q + 1) ([], []) (l.take j) = ((feed (q + 1) ([], []) (l.take n)).1 ++ (feed (q + 1) ([], (feed (q + 1) ([], []) (l.take n)).2) ((l.take j).drop n)).1, (feed (q + 1) ([], (feed (q + 1) ([], []) (l.take n)).2) ((l.take j).drop n)).2) := by
          have e : l.take j = l.take n ++ (l.take j).drop n := by
            have := List.take_append_drop n (l.take j)
            rw [List.take_take, Nat.min_eq_left hj1] at this
            exact this.symm
          conv => lhs; rw [e, feed_append]
          exact feed_from (q + 1) (feed (q + 1) ([], []) (l.take n)).1 (feed (q + 1) ([], []) (l.take n)).2 ((l.take j).drop n)
        have hb1 := (feed_len (q + 1) ([], []) (l.take n)).1
        have hb2 := (feed_len (q + 1) ([], (feed (q + 1) ([], []) (l.take n)).2) ((l.take j).drop n)).1
        have hb3 := List.length_take_le n l
        have hb4 : ((l.take j).drop n).length ≤ l.length := by simp; omega
        generalize feed (q + 1) ([], (feed (q + 1) ([], []) (l.take n)).2) ((l.take j).drop n) = st at *
        generalize feed (q + 1) ([], []) (l.take n) = sy at *
        simp only [List.length_nil, Nat.zero_add] at hb1 hb2
        have hb5 : sy.1.length + st.1.length ≤ 1099511627776 := by omega
        clear hb1 hb2 hb3 hb4
        have HST := hid hst; clear hst
        have hgt := HP2.out.gt
        have hbase : w.heap.size ≤ w3.heap.size := HP2.out.fr.size
        go_wp2_with (at_builtin; go_must (refine wpList_appendN rfl (.tmp 64) (.tmp 70) 32 rfl 9 (.string ByteArray.empty) 16 Try.underlying32 Try.info_str rfl _ rfl w.heap.size sy.1.length (sV (txt sy.1)) hgt ao st.1.length oc (sV (txt st.1)) rfl ho1 ho2 HO3.out (fun u hu => by simp [sV] at hu; obtain ⟨_, _, rfl⟩ := hu; rfl) hb5 (by decide) hbase ?_))
        intro got' w4 hoo hff hbb
        have hP3 := HP2.out.push hoo hff hbb
        have HP3 := hid hP3; clear hP3 hoo hff hbb hgt hbase
        go_wp2
        go_roundw
        case rel =>
          have hfin : PAt w w4 X (X + 1) (q + 1) bx by' (.slice aa sx.1.length ac) got' sx (feed (q + 1) ([], []) (l.take j)) := by rw [HST.out]; exact HP3.out
          have hjv := HJ.out
          first
            | exact ⟨k + 1, j, by', by omega, by go_num, hj2, int_eq (by omega), hfin⟩
            | exact ⟨_, _, _, ⟨k + 1, by omega, rfl, j, hj2, rfl, by', hfin⟩, rfl, int_eq (by omega), by go_num⟩
        case measure => simp [intOf]; omega
    · go_wp2_with fail
      all_goals
        have hbs := (HV.out.mono (E := fun k => k < w.heap.size) (fun k h _ => h)).frame HP.out.fr (fun _ _ => id)
        refine Calls.mono (feed_any (fun k => k < w.heap.size) (X + 1) (q + 1) by_ _ (feed (q + 1) ([], []) (l.take n)).2 ((l.take l.length).drop n) wr HP.out.y ?_ ?_ ?_) ?_
        · exact Bs.sub hbs n l.length hn (Nat.le_refl _) (by omega) (by omega) (by simp [*])
        · intro k hk hs
          have := HP.out.yw k hs
          omega
        · have := (feed_len (q + 1) ([], []) (l.take n)).2
          simp at this ⊢
          omega
        rintro e w3 ⟨ov, by', rfl, hF⟩
        obtain ⟨hP2, hov⟩ := HP.out.feedY hF
        have hout := hF.out
        obtain ⟨ao, oc, rfl, ho1, ho2, ho3⟩ := own_src hout
        clear hF hbs
        have HP2 := hid hP2; clear hP2
        have HO3 := hid ho3; clear ho3
        have HOV := hid hov; clear hov
        have HOUT := hid hout; clear hout
        have hst : sx = ((feed (q + 1) ([], []) (l.take n)).1 ++ (feed (q + 1) ([], (feed (q + 1) ([], []) (l.take n)).2) ((l.take l.length).drop n)).1, (feed (q + 1) ([], (feed (q + 1) ([], []) (l.take n)).2) ((l.take l.length).drop n)).2) := by
          rw [← HX.out]
          have e : l = l.take n ++ (l.take l.length).drop n := by
            rw [List.take_length]
            exact (List.take_append_drop n l).symm
          conv => lhs; rw [e, feed_append]
          exact feed_from (q + 1) (feed (q + 1) ([], []) (l.take n)).1 (feed (q + 1) ([], []) (l.take n)).2 ((l.take l.length).drop n)
        have hb1 := (feed_len (q + 1) ([], []) (l.take n)).1
        have hb2 := (feed_len (q + 1) ([], (feed (q + 1) ([], []) (l.take n)).2) ((l.take l.length).drop n)).1
        have hb3 := List.length_take_le n l
        have hb4 : ((l.take l.length).drop n).length ≤ l.length := by simp
        have hshort := (feed_short (q + 1) (by omega) l ([], []) (by simp) (by simp; omega)).1
        rw [HX.out] at hshort
        generalize feed (q + 1) ([], (feed (q + 1) ([], []) (l.take n)).2) ((l.take l.length).drop n) = st at *
        generalize feed (q + 1) ([], []) (l.take n) = sy at *
        simp only [List.length_nil, Nat.zero_add] at hb1 hb2
        have hb5 : sy.1.length + st.1.length ≤ 1099511627776 := by omega
        clear hb1 hb2 hb3 hb4
        have HST := hid hst; clear hst
        have HSH := hid hshort; clear hshort
        have hgt := HP2.out.gt
        have hbase : w.heap.size ≤ w3.heap.size := HP2.out.fr.size
        go_wp2_with (at_builtin; go_must (refine wpList_appendN rfl (.tmp 73) (.tmp 78) 32 rfl 9 (.string ByteArray.empty) 16 Try.underlying32 Try.info_str rfl _ rfl w.heap.size sy.1.length (sV (txt sy.1)) hgt ao st.1.length oc (sV (txt st.1)) rfl ho1 ho2 HO3.out (fun u hu => by simp [sV] at hu; obtain ⟨_, _, rfl⟩ := hu; rfl) hb5 (by decide) hbase ?_))
        intro got' w4 hoo hff hbb
        have hP3 := HP2.out.push hoo hff hbb
        rw [← HST.out] at hP3
        have HP3 := hid hP3; clear hP3 hoo hff hbb hgt hbase
        go_wp2
        go_loop [15] (fun i => ∃ t : Nat, t ≤ sx.1.length ∧ i = .int .i64 t) (fun i => sx.1.length - (intOf i).toNat)
        case atStart => exact ⟨0, Nat.zero_le _, rfl⟩
        case round =>
          obtain ⟨t, htl, rfl⟩ := hrel
          have hal : w4.ownsRow w.heap.size 9 1 (.slice aa sx.1.length ac) (txt sx.1).length (sV (txt sx.1)) := by simpa using HP3.out.al
          have hall := Ss.own hal
          by_cases hlt2 : t < sx.1.length
          · obtain ⟨a0, c0, e0, _, _, hk0⟩ := hall
            obtain ⟨b0, o0, e1, -, hc0⟩ := hk0 t (by simpa using hlt2)
            simp only [Value.slice.injEq] at e0
            obtain ⟨rfl, -, rfl⟩ := e0
            subst e1
            have hs1 : (txt sx.1).getD t ByteArray.empty = ⟨(sx.1.getD t []).toArray⟩ := by simp [txt, List.getD, hlt2]
            have hs2 : ((sx.1.getD t []).length : Int) ≤ q + 1 := HSH.out _ (by rw [List.getD_eq_getElem?_getD, List.getElem?_eq_getElem hlt2]; exact List.getElem_mem _)
            rw [hs1] at hc0
            clear hal hs1 hk0
            generalize sx.1.getD t [] = ln at *
            have hsz : (⟨ln.toArray⟩ : ByteArray).size = ln.length := by simp [ByteArray.size]
            have hdd : decide (q + 1 < (ln.length : Int)) = false := by rw [decide_eq_false_iff_not]; omega
            generalize (⟨ln.toArray⟩ : ByteArray) = bs at *
            go_wp2
            go_round
            case rel => exact ⟨t + 1, by omega, by go_num⟩
            case measure => simp [intOf]; omega
          · have hgg : w4.ownsRow w.heap.size 9 1 got' (txt sx.1).length (sV (txt sx.1)) := by simpa using HP3.out.gt
            have hgot := Ss.own hgg
            have hx := HP3.out.x
            have hy := HP3.out.y
            have hff := HP3.out.fr
            clear hal hgg
            have HALL := hid hall; clear hall
            have HGOT := hid hgot; clear hgot
            have HXX := hid hx; clear hx
            have HYY := hid hy; clear hy
            have HFF := hid hff; clear hff
            have HTT : Hid (decide (txt sx.1 = txt sx.1) = true) := by unfold Hid; simp
            go_wp2_with (first | (go_at_call 8; refine (sameTexts_any _ _ _ _ _ _ _ HALL.out HGOT.out).mono ?_; rw [HTT.out]; rintro e w5 ⟨rfl, nn, rfl⟩))
            refine (left_any X (q + 1) bx sx.2 (w4.drewN nn) ⟨HXX.out.heap, HXX.out.own⟩).mono ?_
            rintro e w6 ⟨rfl, rfl⟩
            go_wp2_with fail
            refine (left_any (X + 1) (q + 1) by' sx.2 (w4.drewN nn) ⟨HYY.out.heap, HYY.out.own⟩).mono ?_
            rintro e w6 ⟨rfl, rfl⟩
            go_wp2_with fail
            go_ret
            exact ⟨rfl, HFF.out.drewN nn⟩
end Go.Proofs.Ytlfiljebfnejbaa
