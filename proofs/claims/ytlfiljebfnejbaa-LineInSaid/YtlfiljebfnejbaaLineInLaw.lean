/- LineIn returns true: the walk. -/
import Derived.Test.YtlfiljebfnejbaaLineFirst
namespace Go.Proofs.Ytlfiljebfnejbaa
open Go.RowKit

/-- Both readers hold the same bytes, and lie in memory of the call's own. -/
structure Both (w wr : World) (X Y : Nat) (m : Int) (bx by_ : Value) (buf : List UInt8) : Prop where
  x : InAt 39 wr X m bx buf
  y : InAt 30 wr Y m by_ buf
  fr : Fr (fun _ => False) w wr
  xw : ∀ k, InS X bx k → w.heap.size ≤ k
  yw : ∀ k, InS Y by_ k → w.heap.size ≤ k
  ne : ∀ k, InS X bx k → ¬ InS Y by_ k

theorem Both.drewN {w wr : World} {X Y : Nat} {m : Int} {bx by_ : Value} {buf : List UInt8} (h : Both w wr X Y m bx by_ buf) (n : Nat) : Both w (wr.drewN n) X Y m bx by_ buf :=
  ⟨⟨h.x.heap, h.x.own⟩, ⟨h.y.heap, h.y.own⟩, h.fr.drewN n, h.xw, h.yw, h.ne⟩
theorem Both.feedX {w wr w1 : World} {X Y : Nat} {m : Int} {bx bx' by_ ov : Value} {buf : List UInt8} {st : List (List UInt8) × List UInt8} (h : Both w wr X Y m bx by_ buf)
    (hF : FeedAt 39 wr w1 X m bx bx' ov st) : Fr (fun _ => False) w w1 ∧ InAt 30 w1 Y m by_ buf ∧ (∀ k, InS X bx' k → w.heap.size ≤ k) ∧ (∀ k, InS X bx' k → ¬ InS Y by_ k) := by
  have hbx : ∀ k, InS X bx' k → InS X bx k ∨ wr.heap.size ≤ k := by
    rintro k (rfl | e)
    · exact .inl (.inl rfl)
    · rcases hF.blk k e.symm with h | h
      · exact .inl (.inr h.symm)
      · exact .inr h
  refine ⟨h.fr.trans hF.fr (fun _ _ h => h) (fun k hk hs => by have := h.xw k hs; omega), h.y.frame hF.fr (fun hs => h.ne _ hs (.inl rfl)) (fun k hk hs => h.ne _ hs (.inr hk.symm)), fun k hk => ?_, fun k hk hy => ?_⟩
  · rcases hbx k hk with h' | h'
    · exact h.xw k h'
    · have := h.fr.size; omega
  · rcases hbx k hk with h' | h'
    · exact h.ne k h' hy
    · have := h.y.lt k hy; omega

theorem Both.feedY {w wr w1 w2 : World} {X Y : Nat} {m : Int} {bx bx' by_ by' ov ov2 : Value} {buf : List UInt8} {st : List (List UInt8) × List UInt8} (h : Both w wr X Y m bx by_ buf)
    (hF : FeedAt 39 wr w1 X m bx bx' ov st) (hG : FeedAt 30 w1 w2 Y m by_ by' ov2 st) : Both w w2 X Y m bx' by' st.2 := by
  obtain ⟨f1, i1, x1, n1⟩ := h.feedX hF
  have hby : ∀ k, InS Y by' k → InS Y by_ k ∨ w1.heap.size ≤ k := by
    rintro k (rfl | e)
    · exact .inl (.inl rfl)
    · rcases hG.blk k e.symm with h | h
      · exact .inl (.inr h.symm)
      · exact .inr h
  refine ⟨hF.at_.frame hG.fr (fun hs => n1 _ (.inl rfl) hs) (fun k hk hs => n1 k (.inr hk.symm) hs), hG.at_, f1.trans hG.fr (fun _ _ h => h) (fun k hk hs => by have := h.yw k hs; omega), x1, fun k hk => ?_, fun k hk hy => ?_⟩
  · rcases hby k hk with h' | h'
    · exact h.yw k h'
    · have := f1.size; omega
  · rcases hby k hy with h' | h'
    · exact n1 k hk h'
    · have := hF.at_.lt k hk; omega

set_option maxHeartbeats 1600000 in
theorem lineIn_any (m : Int) (v : Value) (ls : List (List UInt8)) (w : World) (hv : Sl (fun _ => True) w v ls.length (fun k u => Bs (fun _ => True) w u (ls.getD k []))) :
    Calls Try.prog 3 #[.int .i64 m, v] w fun e w' => e = .returned (.bool true) ∧ Fr (fun _ => False) w w' := by
  obtain ⟨a, c, rfl, h1, h2, hk⟩ := hv
  have hm : ls.length ≤ 9223372036854775807 := Nat.le_trans h1 h2
  clear h1 h2
  have HK := hid hk; clear hk
  by_cases hl : 20 < ls.length
  · go_enter Try.func3, Try.ntmps3
    go_wp2_with (go_at_call 5; refine (first_any _).mono ?_; rintro e w1 ⟨rfl, hf⟩)
    go_ret
    exact ⟨rfl, hf⟩
  · have hd : decide (20 < (ls.length : Int)) = false := by rw [decide_eq_false_iff_not]; omega
    go_enter Try.func3, Try.ntmps3
    go_wp2_with (first | (go_at_call 5; refine (first_any _).mono ?_; rintro e w1 ⟨rfl, hf⟩) | (go_at_call 6; refine (newIn_any _ _).mono ?_; rintro e w' ⟨rfl, rfl⟩) | (go_at_call 7; refine (lbound_any _ _ _).mono ?_; rintro e w' ⟨rfl, rfl⟩))
    have hB0 : Both w ((w1.alloc (.cells #[.int .i64 (bnd m 512), .slice none 0 0] 39)).alloc (.cells #[.int .i64 (bnd m 512), .slice none 0 0] 30)) w1.heap.size (w1.heap.size + 1) (bnd m 512) (.slice none 0 0) (.slice none 0 0) [] := by
      refine ⟨(in_fresh w1 _ _).frame ((Fr.refl (fun _ => False) _).alloc _) id (fun _ _ => id), ?_, (hf.alloc _).alloc _, ?_, ?_, ?_⟩
      · have := in_fresh (w1.alloc (.cells #[.int .i64 (bnd m 512), .slice none 0 0] 39)) (bnd m 512) 30
        simpa using this
      · rintro k (rfl | h)
        · exact hf.size
        · simp [Value.ownBlock] at h
      · rintro k (rfl | h)
        · have := hf.size; omega
        · simp [Value.ownBlock] at h
      · rintro k (rfl | h) (h' | h')
        · omega
        · simp [Value.ownBlock] at h'
        · simp [Value.ownBlock] at h
        · simp [Value.ownBlock] at h
    go_loopw [8] (fun i wr => ∃ (k : Nat) (bx by_ : Value) (buf : List UInt8), k ≤ ls.length ∧ i = .int .i64 k ∧ buf.length ≤ 100 * k ∧ Both w wr w1.heap.size (w1.heap.size + 1) (bnd m 512) bx by_ buf) (fun i _ => ls.length - (intOf i).toNat)
    case atStart => exact ⟨0, _, _, [], Nat.zero_le _, rfl, by simp, hB0⟩
    case round =>
      clear hB0
      obtain ⟨k, bx, by_, buf, hkl, rfl, hbl, hB⟩ := hrel
      by_cases hlt : k < ls.length
      · obtain ⟨b, o, u, rfl, _, hc, hu⟩ := HK.out k hlt
        have hc0 := hc
        have hcr : wr.cell? ⟨b, o + k, none⟩ = some u := hB.fr.cell hc id
        have hur : Bs (fun k => k < w.heap.size) wr u (ls.getD k []) := (hu.mono (fun k h _ => h)).frame hB.fr (fun _ _ => id)
        generalize ls.getD k [] = l at *
        obtain ⟨ua, uc, rfl, hu1, hu2, _⟩ := id hur
        have hul : l.length ≤ 9223372036854775807 := Nat.le_trans hu1 hu2
        have HB := hid hB; clear hB
        have HU := hid hur; clear hur hu hu1 hu2 hc
        by_cases h100 : 100 < l.length
        · go_wp2
          go_ret
          exact ⟨rfl, HB.out.fr⟩
        · have hd1 : decide (100 < (l.length : Int)) = false := by rw [decide_eq_false_iff_not]; omega
          go_wp2_with fail
          refine wp_region_ord [(0, 0), (1, 0), (2, 0), (3, 0), (4, 0), (6, 0), (7, 0), (8, 0), (9, 0), (10, 0), (5, 1), (11, 1), (12, 1), (13, 0), (14, 0), (15, 0), (17, 0), (18, 0), (19, 0), (0, 2), (20, 0), (21, 0), (16, 1), (22, 0), (23, 0)] (fun w' => w'.cell? ⟨b, o + k, none⟩ = some (.slice ua l.length uc)) (by kernel_rfl) (by kernel_rfl) (by kernel_rfl) rfl (fun _ _ d _ _ h => by cases d <;> exact h) hcr ?_
          iterate 10 (refine wpO_take ?_ rfl (by kernel_rfl) ?_ ?_; rotate_left; (· intro w' hS; go_simp; try with_reducible rfl); try simp only [Act.put, List.setIfInBounds_toArray, List.set_cons_zero, List.set_cons_succ])
          refine wpO_run rfl (by kernel_rfl) (fun K hK => ?_); go_simp
          refine (feed_any (fun k => k < w.heap.size) w1.heap.size (bnd m 512) bx (.slice ua l.length uc) buf l wr.drew ⟨HB.out.x.heap, HB.out.x.own⟩ HU.out (fun k hk hs => by have := HB.out.xw k hs; omega) (by omega)).mono ?_
          rintro e w2 ⟨ov, bx', rfl, hF⟩
          have hFd : FeedAt 39 wr w2 w1.heap.size (bnd m 512) bx bx' ov (feed (bnd m 512) ([], buf) l) := ⟨hF.at_, hF.out, ⟨hF.fr.os, hF.fr.tape, hF.fr.output, hF.fr.size, hF.fr.block⟩, hF.blk⟩
          clear hF
          obtain ⟨f2, y2, xw2, ne2⟩ := HB.out.feedX hFd
          have c2 : w2.cell? ⟨b, o + k, none⟩ = some (.slice ua l.length uc) := hFd.fr.cell hcr (fun hs => by have := HB.out.xw _ hs; have := World.block_lt_of_cell? w _ hc0; omega)
          refine hK _ _ (fun _ => c2) ?_
          clear hK K
          try simp only [Act.put, List.setIfInBounds_toArray, List.set_cons_zero, List.set_cons_succ]
          refine wpO_run rfl (by kernel_rfl) (fun K hK => ?_); go_simp
          have hu2 : Bs (fun k => k < w.heap.size) w2 (.slice ua l.length uc) l := HU.out.frame hFd.fr (fun k hk hs => by have := HB.out.xw k hs; omega)
          refine (rfeed_any (fun k => k < w.heap.size) (w1.heap.size + 1) (bnd m 512) by_ (.slice ua l.length uc) buf l w2 y2 hu2 (fun k hk hs => by have := HB.out.yw k hs; omega) (by omega)).mono ?_
          rintro e w3 ⟨ov2, by', rfl, hG⟩
          have hB3 := HB.out.feedY hFd hG
          have c3 : w3.cell? ⟨b, o + k, none⟩ = some (.slice ua l.length uc) := hG.fr.cell c2 (fun hs => by have := HB.out.yw _ hs; have := World.block_lt_of_cell? w _ hc0; omega)
          have s1 : Ss (fun k => ov.ownBlock = some k) w3 ov (txt (feed (bnd m 512) ([], buf) l).1) := (Ss.own (by simpa using hFd.out)).frame hG.fr (fun k hk hs => by
            have := (hFd.out.lt k hk)
            rcases hs with rfl | hs
            · have := heap_lt HB.out.y.heap; omega
            · have := own_size HB.out.y.own k hs.symm; omega)
          have s2 : Ss (fun k => ov2.ownBlock = some k) w3 ov2 (txt (feed (bnd m 512) ([], buf) l).1) := Ss.own (by simpa using hG.out)
          refine hK _ _ (fun _ => c3) ?_
          clear hK K hG hFd hu2 y2 f2 xw2 ne2 c2
          try simp only [Act.put, List.setIfInBounds_toArray, List.set_cons_zero, List.set_cons_succ]
          have HB3 := hid hB3; clear hB3
          refine wpO_run rfl (by kernel_rfl) (fun K hK => ?_); go_simp
          refine (sameTexts_any _ _ _ _ _ _ _ s1 s2).mono ?_
          rintro e w4 ⟨rfl, n, rfl⟩
          have hd2 : decide (txt (feed (bnd m 512) ([], buf) l).1 = txt (feed (bnd m 512) ([], buf) l).1) = true := by simp
          rw [hd2]
          refine hK _ _ (fun _ => c3) ?_
          clear hK K s1 s2 hd2
          try simp only [Act.put, List.setIfInBounds_toArray, List.set_cons_zero, List.set_cons_succ]
          obtain ⟨pa, pc, hpv, _⟩ := own_len HB3.out.y.own
          have c4 : (w3.drewN n).cell? ⟨w1.heap.size + 1, 1, none⟩ = some by' := by
            have := cell_of_row w3 (w1.heap.size + 1) 1 _ _ _ HB3.out.y.heap
            exact this
          iterate 6 (refine wpO_take ?_ rfl (by kernel_rfl) ?_ ?_; rotate_left; (· intro w' hS; go_simp; try with_reducible rfl); try simp only [Act.put, List.setIfInBounds_toArray, List.set_cons_zero, List.set_cons_succ])
          rw [hpv] at c4
          clear hpv
          refine wpO_sub (fun w' => w'.cell? ⟨b, o + k, none⟩ = some (.slice ua l.length uc) ∧ w'.cell? ⟨w1.heap.size + 1, 1, none⟩ = some (.slice pa (feed (bnd m 512) ([], buf) l).2.length pc)) (fun _ h => h.1) ⟨c3, c4⟩ ?_
          iterate 2 (refine wpO_take ?_ rfl (by kernel_rfl) ?_ ?_; rotate_left; (· intro w' hS; go_simp; try with_reducible rfl); try simp only [Act.put, List.setIfInBounds_toArray, List.set_cons_zero, List.set_cons_succ])
          refine wpO_run rfl (by kernel_rfl) (fun K hK => ?_); go_simp
          refine (left_any w1.heap.size (bnd m 512) bx' (feed (bnd m 512) ([], buf) l).2 (w3.drewN n) ⟨HB3.out.x.heap, HB3.out.x.own⟩).mono ?_
          rintro e w5 ⟨rfl, rfl⟩
          refine hK _ _ (fun _ => ⟨c3, c4⟩) ?_
          clear hK K
          try simp only [Act.put, List.setIfInBounds_toArray, List.set_cons_zero, List.set_cons_succ]
          have hfl := feed_len (bnd m 512) ([], buf) l
          iterate 2 (refine wpO_take ?_ rfl (by kernel_rfl) ?_ ?_; rotate_left; (· intro w' hS; go_simp; try with_reducible rfl); try simp only [Act.put, List.setIfInBounds_toArray, List.set_cons_zero, List.set_cons_succ])
          refine wpO_end ?_
          clear c4 c3
          go_wp2
          go_roundw
          case rel => exact ⟨k + 1, bx', by', _, by omega, by go_num, by simp at hfl; omega, HB3.out.drewN n⟩
          case measure => simp [intOf]; omega
      · go_wp2
        go_ret
        exact ⟨rfl, hB.fr⟩
end Go.Proofs.Ytlfiljebfnejbaa
