/- Contracts of package line's In, of the document's In, and of what the statements use beside them. -/
import Derived.Test.YtlfiljebfnejbaaDoorLib
namespace Go.Proofs.YtlfiljebfnejbaaDoor
open Go.RowKit

/-- What a bound stands for. -/
def bnd (m o : Int) : Int := if m < 1 then o else if m > 1048576 then o else m
theorem bound_any (m o : Int) (w : World) :
    Calls Tryd.prog 21 #[.int .i64 m, .int .i64 o] w fun e w' => e = .returned (.int .i64 (bnd m o)) ∧ w = w' := by
  unfold bnd
  by_cases h1 : m < 1
  · go_enter Tryd.func21, Tryd.ntmps21
    go_wp2
    go_ret
    simp
  · have h1' : decide (m < 1) = false := by simpa using h1
    by_cases h2 : 1048576 < m
    · go_enter Tryd.func21, Tryd.ntmps21
      go_wp2
      go_ret
      simp
    · have h2' : decide (1048576 < m) = false := by simpa using h2
      go_enter Tryd.func21, Tryd.ntmps21
      go_wp2
      go_ret
      simp
theorem lbound_any (m o : Int) (w : World) :
    Calls Tryd.prog 15 #[.int .i64 m, .int .i64 o] w fun e w' => e = .returned (.int .i64 (bnd m o)) ∧ w = w' := by
  unfold bnd
  by_cases h1 : m < 1
  · go_enter Tryd.func15, Tryd.ntmps15
    go_wp2
    go_ret
    simp
  · have h1' : decide (m < 1) = false := by simpa using h1
    by_cases h2 : 1048576 < m
    · go_enter Tryd.func15, Tryd.ntmps15
      go_wp2
      go_ret
      simp
    · have h2' : decide (1048576 < m) = false := by simpa using h2
      go_enter Tryd.func15, Tryd.ntmps15
      go_wp2
      go_ret
      simp

/-- A byte that is a sign of a line. -/
def pln (c : Int) : Bool := decide (32 ≤ c) && decide (c ≤ 126)
theorem plain_any (c : Int) (w : World) :
    Calls Tryd.prog 22 #[.int .u8 c] w fun e w' => e = .returned (.bool (pln c)) ∧ w = w' := by
  unfold pln
  by_cases h1 : 32 ≤ c
  · go_enter Tryd.func22, Tryd.ntmps22
    go_wp2
    go_ret
    simp [h1]
  · have h1' : decide (32 ≤ c) = false := by simpa using h1
    go_enter Tryd.func22, Tryd.ntmps22
    go_wp2
    go_ret
    simp [h1]

theorem newIn_any (m : Int) (w : World) :
    Calls Tryd.prog 8 #[.int .i64 m] w fun e w' => e = .returned (.pointer (some ⟨w.heap.size, 0, none⟩)) ∧
      w.alloc (.cells #[.int .i64 (bnd m 512), .slice none 0 0] 46) = w' := by
  go_enter Tryd.func8, Tryd.ntmps8
  go_wp2_with (go_at_call 21; refine (bound_any _ _ _).mono ?_; rintro e w' ⟨rfl, rfl⟩)
  go_ret
  exact ⟨rfl, rfl⟩

/-! ### What Feed computes -/
def feedStep (most : Int) (s : List (List UInt8) × List UInt8) (c : UInt8) : List (List UInt8) × List UInt8 :=
  if c = 10 then (s.1 ++ [s.2], []) else if pln c.toNat = true ∧ (s.2.length : Int) < most then (s.1, s.2 ++ [c]) else s
def feed (most : Int) (s : List (List UInt8) × List UInt8) (l : List UInt8) : List (List UInt8) × List UInt8 := l.foldl (feedStep most) s
def txt (l : List (List UInt8)) : List ByteArray := l.map fun s => ⟨s.toArray⟩
@[simp] theorem txt_length (l : List (List UInt8)) : (txt l).length = l.length := by simp [txt]
theorem feed_take (most : Int) (s : List (List UInt8) × List UInt8) (l : List UInt8) (k : Nat) (h : k < l.length) :
    feed most s (l.take (k + 1)) = feedStep most (feed most s (l.take k)) (l.getD k 0) := by
  rw [take_snoc l k 0 h]
  simp only [feed, List.foldl_append, List.foldl_cons, List.foldl_nil]
theorem feed_len (most : Int) (s : List (List UInt8) × List UInt8) (l : List UInt8) : (feed most s l).1.length ≤ s.1.length + l.length ∧ (feed most s l).2.length ≤ s.2.length + l.length := by
  unfold feed
  induction l generalizing s with
  | nil => simp
  | cons c l ih =>
    have h := ih (feedStep most s c)
    have h2 : (feedStep most s c).1.length ≤ s.1.length + 1 ∧ (feedStep most s c).2.length ≤ s.2.length + 1 := by
      unfold feedStep
      split
      · simp
      · split <;> simp
    simp only [List.foldl_cons, List.length_cons]
    omega

/-- The receiver in block B, of the type T: its bound and its buffer. -/
structure InAt (T : Nat) (w : World) (B : Nat) (most : Int) (bv : Value) (buf : List UInt8) : Prop where
  heap : w.heap[B]? = some (.cells #[.int .i64 most, bv] T (0, 0))
  own : w.ownsRow 0 5 1 bv buf.length (bV buf)
/-- What Feed may write. -/
def InS (B : Nat) (bv : Value) : Nat → Prop := fun k => k = B ∨ some k = bv.ownBlock
theorem InAt.frame {T B : Nat} {w w' : World} {most : Int} {bv : Value} {buf : List UInt8} {S : Nat → Prop} (h : InAt T w B most bv buf) (hf : Fr S w w') (h1 : ¬ S B) (h2 : ∀ k, bv.ownBlock = some k → ¬ S k) : InAt T w' B most bv buf :=
  ⟨hf.heap h.heap h1, hf.own h.own h2⟩
theorem InAt.lt {T B : Nat} {w : World} {most : Int} {bv : Value} {buf : List UInt8} (h : InAt T w B most bv buf) : ∀ k, InS B bv k → k < w.heap.size := by
  rintro k (rfl | e)
  · exact heap_lt h.heap
  · exact own_size h.own k e.symm

theorem Tryd.info_byte : (Tryd.prog.info? 5).map (fun i => (i.zero, i.size, i.bytes)) = some (some (.int .u8 0), 1, 1) := by kernel_rfl
theorem Tryd.info_str : (Tryd.prog.info? 9).map (fun i => (i.zero, i.size, i.bytes)) = some (some (.string ByteArray.empty), 1, 16) := by kernel_rfl

theorem left_any (B : Nat) (most : Int) (bv : Value) (buf : List UInt8) (w : World) (hI : InAt 46 w B most bv buf) :
    Calls Tryd.prog 13 #[.pointer (some ⟨B, 0, none⟩)] w fun e w' => e = .returned (.int .i64 buf.length) ∧ w = w' := by
  obtain ⟨a, c, rfl, _⟩ := own_len hI.own
  have c1 : w.cell? ⟨B, 1, none⟩ = some (.slice a buf.length c) := by rw [cell_of_row w B 1 _ _ _ hI.heap]; rfl
  go_enter Tryd.func13, Tryd.ntmps13
  go_wp2
  go_ret
  exact ⟨rfl, rfl⟩

/-- What holds at the head of Feed's loop, behind k bytes. -/
structure FeedAt (T : Nat) (w wr : World) (B : Nat) (most : Int) (bv bv' ov : Value) (st : List (List UInt8) × List UInt8) : Prop where
  at_ : InAt T wr B most bv' st.2
  out : wr.ownsRow w.heap.size 9 1 ov st.1.length (sV (txt st.1))
  fr : Fr (InS B bv) w wr
  blk : ∀ k, bv'.ownBlock = some k → bv.ownBlock = some k ∨ w.heap.size ≤ k

theorem FeedAt.drewN {T : Nat} {w wr : World} {B : Nat} {most : Int} {bv bv' ov : Value} {st : List (List UInt8) × List UInt8} (h : FeedAt T w wr B most bv bv' ov st) (n : Nat) : FeedAt T w (wr.drewN n) B most bv bv' ov st :=
  ⟨⟨h.at_.heap, h.at_.own⟩, h.out, h.fr.drewN n, h.blk⟩
theorem FeedAt.drew {T : Nat} {w wr : World} {B : Nat} {most : Int} {bv bv' ov : Value} {st : List (List UInt8) × List UInt8} (h : FeedAt T w wr B most bv bv' ov st) : FeedAt T w wr.drew B most bv bv' ov st :=
  ⟨⟨h.at_.heap, h.at_.own⟩, h.out, h.fr.drew, h.blk⟩
theorem FeedAt.line {T : Nat} {w wr w1 : World} {B g cap : Nat} {most : Int} {bv bv' ov : Value} {st : List (List UInt8) × List UInt8} {o : Obj} (hT : T ≠ 9) (h : FeedAt T w wr B most bv bv' ov st)
    (ho : w1.ownsRow w.heap.size 9 1 (.slice (some ⟨g, 0, none⟩) (st.1.length + 1) cap) (st.1.length + 1) (sV (txt st.1) ++ [.string ⟨st.2.toArray⟩])) (hf : Fr (fun k => some k = ov.ownBlock) (wr.alloc o) w1) :
    w1.heap[B]? = some (.cells #[.int .i64 most, bv'] T (0, 0)) ∧
    FeedAt T w (w1.setCell ⟨B, 1, none⟩ (.slice none 0 0)) B most bv (.slice none 0 0) (.slice (some ⟨g, 0, none⟩) (st.1.length + 1) cap) (st.1 ++ [st.2], []) := by
  have hov : ∀ k, some k = ov.ownBlock → k ≠ B := fun k hk => own_ne_cells h.out h.at_.heap (Ne.symm hT) k hk.symm
  have hB : w1.heap[B]? = some (.cells #[.int .i64 most, bv'] T (0, 0)) := ((Fr.refl (fun _ => False) wr).alloc o |>.trans hf (U := fun k => some k = ov.ownBlock) (fun _ _ h => h.elim) (fun _ _ h => h)).heap h.at_.heap (fun e => hov B e rfl)
  have hgB : g ≠ B := by
    intro e
    rcases ho.2 with ⟨h', _⟩ | ⟨g', cap', cur, h', _, hg, _⟩
    · simp at h'
    · simp only [Value.slice.injEq, Option.some.injEq, Addr.mk.injEq] at h'
      obtain ⟨⟨rfl, _⟩, _⟩ := h'
      rw [e, hB] at hg
      simp only [Option.some.injEq, Obj.cells.injEq] at hg
      exact hT hg.2.1
  refine ⟨hB, ⟨?_, World.ownsRow_nil _ _ _ _⟩, ?_, ?_, fun k hk => by simp [Value.ownBlock] at hk⟩
  · rw [heap_setCell_same w1 B 1 _ _ _ hB]
    rfl
  · have := (Fr.refl (fun k => k = B) w1).setCell (p := ⟨B, 1, none⟩) (.inl rfl) (.slice none 0 0)
    have h2 := this.own ho (fun k hk => by simp [Value.ownBlock] at hk; subst hk; exact hgB)
    simpa [sV, txt] using h2
  · have f1 := (h.fr.alloc o).trans hf (U := InS B bv) (fun _ _ h => h) (fun k hk e => absurd (h.out.lt k e.symm).1 (by omega))
    exact f1.setCell (.inl (.inl rfl)) _

theorem FeedAt.sign {T : Nat} {w wr w1 : World} {B g cap : Nat} {most : Int} {bv bv' ov : Value} {st : List (List UInt8) × List UInt8} {o : Obj} {c : UInt8} (hT : T ≠ 5) (hT2 : T ≠ 9) (h : FeedAt T w wr B most bv bv' ov st)
    (ho : w1.ownsRow 0 5 1 (.slice (some ⟨g, 0, none⟩) (st.2.length + 1) cap) (st.2.length + 1) (bV st.2 ++ [.int .u8 c.toNat])) (hf : Fr (fun k => some k = bv'.ownBlock) (wr.alloc o) w1)
    (hg : bv'.ownBlock = some g ∨ (wr.alloc o).heap.size ≤ g) :
    w1.heap[B]? = some (.cells #[.int .i64 most, bv'] T (0, 0)) ∧
    FeedAt T w (w1.setCell ⟨B, 1, none⟩ (.slice (some ⟨g, 0, none⟩) (st.2.length + 1) cap)) B most bv (.slice (some ⟨g, 0, none⟩) (st.2.length + 1) cap) ov (st.1, st.2 ++ [c]) := by
  have hov : ∀ k, some k = bv'.ownBlock → k ≠ B := fun k hk => own_ne_cells h.at_.own h.at_.heap (Ne.symm hT) k hk.symm
  have fa : Fr (fun k => some k = bv'.ownBlock) wr w1 := ((Fr.refl (fun _ => False) wr).alloc o).trans hf (fun _ _ h => h.elim) (fun _ _ h => h)
  have hB : w1.heap[B]? = some (.cells #[.int .i64 most, bv'] T (0, 0)) := fa.heap h.at_.heap (fun e => hov B e rfl)
  have hgB : g ≠ B := by
    rcases hg with hg | hg
    · exact hov g hg.symm
    · have := heap_lt h.at_.heap; simp at hg; omega
  have f2 := (Fr.refl (fun k => k = B) w1).setCell (p := ⟨B, 1, none⟩) (.inl rfl) (.slice (some ⟨g, 0, none⟩) (st.2.length + 1) cap)
  refine ⟨hB, ⟨?_, ?_⟩, ?_, ?_, ?_⟩
  · rw [heap_setCell_same w1 B 1 _ _ _ hB]
    rfl
  · have h2 := f2.own ho (fun k hk => by simp [Value.ownBlock] at hk; subst hk; exact hgB)
    simpa [bV] using h2
  · refine f2.own (fa.own h.out (fun k hk e => own_ne h.out h.at_.own (by decide) k hk e)) (fun k hk => own_ne_cells h.out (fa.heap h.at_.heap (fun e => hov B e rfl) |> fun _ => h.at_.heap) (Ne.symm hT2) k hk)
  · have f1 := (h.fr.alloc o).trans hf (U := InS B bv) (fun _ _ h => h) (fun k hk e => by
      rcases h.blk k e.symm with hb | hb
      · exact .inr hb.symm
      · omega)
    exact f1.setCell (.inl (.inl rfl)) _
  · intro k hk
    simp only [Value.ownBlock, Option.some.injEq] at hk
    subst hk
    rcases hg with hg | hg
    · exact h.blk _ hg
    · have := h.fr.size; simp at hg; right; omega

set_option maxHeartbeats 800000 in
theorem feed_any (D : Nat → Prop) (B : Nat) (most : Int) (bv v : Value) (buf l : List UInt8) (w : World)
    (hI : InAt 46 w B most bv buf) (hB : Bs D w v l) (hD : ∀ k, D k → ¬ InS B bv k) (hl : buf.length + l.length ≤ 1073741824) :
    Calls Tryd.prog 10 #[.pointer (some ⟨B, 0, none⟩), v] w fun e w' => ∃ ov bv', e = .returned ov ∧ FeedAt 46 w w' B most bv bv' ov (feed most ([], buf) l) := by
  obtain ⟨a, c, rfl, hlc, hcm, hk⟩ := hB
  have hm' : l.length ≤ 9223372036854775807 := Nat.le_trans hlc hcm
  have HL := hid hl; clear hl
  have HK := hid hk; clear hk
  have HD := hid hD; clear hD
  have HI := hid hI; clear hI
  go_enter Tryd.func10, Tryd.ntmps10
  go_wp2
  go_loopw [5, 10] (fun ov i wr => ∃ (k : Nat) (bv' : Value), k ≤ l.length ∧ i = .int .i64 k ∧ FeedAt 46 w wr B most bv bv' ov (feed most ([], buf) (l.take k))) (fun _ i _ => l.length - (intOf i).toNat)
  case atStart => exact ⟨0, bv, Nat.zero_le _, rfl, HI.out, World.ownsRow_nil _ _ _ _, Fr.refl _ _, fun k h => .inl h⟩
  case round =>
    obtain ⟨k, bv', hkl, rfl, hF⟩ := hrel
    by_cases hlt : k < l.length
    · obtain ⟨b, o, rfl, hDb, hcw⟩ := HK.out k hlt
      have hst := feed_take most ([], buf) l k hlt
      have hln := feed_len most ([], buf) (l.take k)
      have htk := List.length_take_le k l
      have hcr : wr.cell? ⟨b, o + k, none⟩ = some (.int .u8 (l.getD k 0).toNat) := hF.fr.cell hcw (HD.out _ hDb)
      have c1 : wr.cell? ⟨B, 1, none⟩ = some bv' := by rw [cell_of_row wr B 1 _ _ _ hF.at_.heap]; rfl
      have hbd := HL.out
      generalize hsg : feed most ([], buf) (l.take k) = st at hst hln hF
      generalize l.getD k 0 = ch at *
      have HS := hid hst; clear hst
      have HG := hid hsg; clear hsg
      have hn1 : st.1.length + 1 ≤ 1099511627776 := by simp at hln; omega
      have hn2 : st.2.length + 1 ≤ 1099511627776 := by simp at hln; omega
      clear hcw hbd htk hln
      have HF := hid hF; clear hF
      by_cases h10 : ch = 10
      · have hcv := conv_bytes (Bs.own HF.out.at_.own) 22 5 9 Tryd.underlying22 Tryd.underlying5 Tryd.underlying9
        subst h10
        have hown := HF.out.out
        go_wp2_with (at_builtin; go_must (refine wpList_append1 rfl (.tmp 17) (.tmp 23) 29 rfl 9 (.string ByteArray.empty) 16 Tryd.underlying29 Tryd.info_str rfl _ rfl w.heap.size st.1.length (sV (txt st.1)) (hown.alloc _) wr.heap.size 1 (.string ⟨st.2.toArray⟩) rfl ?c1 rfl hn1 (by decide) ?c2 ?_))
        case c1 => simp [World.cell?_alloc_at]
        case c2 => have := HF.out.fr.size; simp; omega
        intro g cap w1 ho hf _
        obtain ⟨hw1, hF'⟩ := FeedAt.line (by decide) HF.out ho hf
        have d1 : w1.cell? ⟨B, 1, none⟩ = some bv' := by rw [cell_of_row w1 B 1 _ _ _ hw1]; rfl
        have f1 : w1.frozen? ⟨B, 1, none⟩ = false := frozen_of_row w1 B 1 _ _ hw1
        clear ho hf hw1
        have HF' := hid hF'; clear hF'
        go_wp2
        go_roundw
        case rel => exact ⟨k + 1, _, by omega, by go_num, by rw [HS.out]; exact HF'.out⟩
        case measure => simp [intOf]; omega
      · have hne : ((ch.toNat : Int) == 10) = false := by
          rw [beq_eq_false_iff_ne]
          intro e
          exact h10 (UInt8.toNat.inj (by simp; omega))
        obtain ⟨ba, bc, hbv, _⟩ := own_len HF.out.at_.own
        have c1' : wr.cell? ⟨B, 1, none⟩ = some (.slice ba st.2.length bc) := by rw [c1, hbv]
        have c0 : wr.cell? ⟨B, 0, none⟩ = some (.int .i64 most) := by rw [cell_of_row wr B 0 _ _ _ HF.out.at_.heap]; rfl
        have HB := hid hbv; clear hbv c1
        by_cases hp : pln ch.toNat = true ∧ (st.2.length : Int) < most
        · obtain ⟨hp1, hp2⟩ := hp
          have hown := HF.out.at_.own
          rw [HB.out] at hown
          have hfs : feedStep most st ch = (st.1, st.2 ++ [ch]) := by simp [feedStep, h10, hp1, hp2]
          have HX := hid hfs; clear hfs
          have hd2 : decide ((st.2.length : Int) < most) = true := by simpa using hp2
          clear hp2
          go_wp2_with fail
          go_quiet ((go_at_call 22; exact Calls.quiet_of_same ((plain_any _ _).mono fun _ _ h => ⟨h.1.trans (by rw [hp1]), h.2.symm⟩)))
          go_wp2_with (at_builtin; go_must (refine wpList_append1 rfl (.tmp 47) (.tmp 49) 22 rfl 5 (.int .u8 0) 1 Tryd.underlying22 Tryd.info_byte rfl _ rfl 0 st.2.length (bV st.2) (hown.alloc _) wr.heap.size 1 (.int .u8 ch.toNat) rfl ?c1 rfl hn2 (by decide) (Nat.zero_le _) ?_))
          case c1 => exact cell_new1 _ _ _ _
          intro g cap w1 ho hf hg
          rw [← HB.out] at hf hg
          obtain ⟨hw1, hF'⟩ := FeedAt.sign (by decide) (by decide) (HF.out.drewN nq) ho hf (by simpa using hg)
          have d1 : w1.cell? ⟨B, 1, none⟩ = some (.slice ba st.2.length bc) := by rw [cell_of_row w1 B 1 _ _ _ hw1, HB.out]; rfl
          have f1 : w1.frozen? ⟨B, 1, none⟩ = false := frozen_of_row w1 B 1 _ _ hw1
          clear ho hf hw1 hg
          have HF' := hid hF'; clear hF'
          go_wp2
          go_roundw
          case rel => exact ⟨k + 1, _, by omega, by go_num, by rw [HS.out, HX.out]; exact HF'.out⟩
          case measure => simp [intOf]; omega
        · have hfs : feedStep most st ch = st := by simp only [feedStep, h10, hp, if_false]
          have HX := hid hfs; clear hfs
          by_cases hp1 : pln ch.toNat = true
          · have hd2 : decide ((st.2.length : Int) < most) = false := by simpa [hp1] using hp
            clear hp
            go_wp2_with fail
            go_quiet ((go_at_call 22; exact Calls.quiet_of_same ((plain_any _ _).mono fun _ _ h => ⟨h.1.trans (by rw [hp1]), h.2.symm⟩)))
            go_wp2
            go_roundw
            case rel => exact ⟨k + 1, _, by omega, by go_num, by rw [HS.out, HX.out]; exact HF.out.drewN _⟩
            case measure => simp [intOf]; omega
          · have hp1' : pln ch.toNat = false := by simpa using hp1
            clear hp hp1
            go_wp2_with fail
            go_quiet ((go_at_call 22; exact Calls.quiet_of_same ((plain_any _ _).mono fun _ _ h => ⟨h.1.trans (by rw [hp1']), h.2.symm⟩)))
            go_wp2
            go_roundw
            case rel => exact ⟨k + 1, _, by omega, by go_num, by rw [HS.out, HX.out]; exact HF.out.drewN _⟩
            case measure => simp [intOf]; omega
    · go_wp2
      go_ret
      obtain rfl : k = l.length := by omega
      rw [List.take_length] at hF
      exact ⟨_, _, rfl, hF⟩
end Go.Proofs.YtlfiljebfnejbaaDoor
