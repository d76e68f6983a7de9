/- The document's In: what its Feed computes is what the program's does. -/
import Derived.Test.YtlfiljebfnejbaaLineIn
import Derived.Test.YtlfiljebfnejbaaRegion
namespace Go.Proofs.Ytlfiljebfnejbaa
open Go.RowKit

set_option maxHeartbeats 800000 in
theorem rfeed_any (D : Nat → Prop) (B : Nat) (most : Int) (bv v : Value) (buf l : List UInt8) (w : World)
    (hI : InAt 30 w B most bv buf) (hB : Bs D w v l) (hD : ∀ k, D k → ¬ InS B bv k) (hl : buf.length + l.length ≤ 1073741824) :
    Calls Try.prog 10 #[.pointer (some ⟨B, 0, none⟩), v] w fun e w' => ∃ ov bv', e = .returned ov ∧ FeedAt 30 w w' B most bv bv' ov (feed most ([], buf) l) := by
  obtain ⟨a, c, rfl, hlc, hcm, hk⟩ := hB
  have hm' : l.length ≤ 9223372036854775807 := Nat.le_trans hlc hcm
  have HL := hid hl; clear hl
  have HK := hid hk; clear hk
  have HD := hid hD; clear hD
  have HI := hid hI; clear hI
  go_enter Try.func10, Try.ntmps10
  go_wp2
  go_loopw [5, 6] (fun ov i wr => ∃ (k : Nat) (bv' : Value), k ≤ l.length ∧ i = .int .i64 k ∧ FeedAt 30 w wr B most bv bv' ov (feed most ([], buf) (l.take k))) (fun _ i _ => l.length - (intOf i).toNat)
  case atStart => exact ⟨0, bv, Nat.zero_le _, rfl, HI.out, World.ownsRow_nil _ _ _ _, Fr.refl _ _, fun k h => .inl h⟩
  case round =>
    obtain ⟨k, bv', hkl, rfl, hF⟩ := hrel
    by_cases hlt : k < l.length
    · obtain ⟨b, o, rfl, hDb, hcw⟩ := HK.out k hlt
      have hst := feed_take most ([], buf) l k hlt
      have hln := feed_len most ([], buf) (l.take k)
      have htk := List.length_take_le k l
      have hcr : wr.cell? ⟨b, o + k, none⟩ = some (.int .u8 (l.getD k 0).toNat) := hF.fr.cell hcw (HD.out _ hDb)
      have c1 : wr.cell? ⟨B, 1, none⟩ = some bv' := by rw [cell_of_row wr B 1 _ _ _ hF.at_.heap]; rfl
      have hbd := HL.out
      generalize hsg : feed most ([], buf) (l.take k) = st at hst hln hF
      generalize l.getD k 0 = ch at *
      have HS := hid hst; clear hst
      have HG := hid hsg; clear hsg
      have hn1 : st.1.length + 1 ≤ 1099511627776 := by simp at hln; omega
      have hn2 : st.2.length + 1 ≤ 1099511627776 := by simp at hln; omega
      have hblt : b < w.heap.size := World.block_lt_of_cell? w _ hcw
      clear hcw hbd htk hln
      have HF := hid hF; clear hF
      by_cases h10 : ch = 10
      · have hcv := conv_bytes (Bs.own HF.out.at_.own) 28 5 9 Try.underlying28 Try.underlying5 Try.underlying9
        subst h10
        have hown := HF.out.out
        go_wp2_with (at_builtin; go_must (refine wpList_append1 rfl (.tmp 19) (.tmp 25) 32 rfl 9 (.string ByteArray.empty) 16 Try.underlying32 Try.info_str rfl _ rfl w.heap.size st.1.length (sV (txt st.1)) (hown.alloc _) wr.heap.size 1 (.string ⟨st.2.toArray⟩) rfl ?c1 rfl hn1 (by decide) ?c2 ?_))
        case c1 => exact cell_new1 _ _ _ _
        case c2 => have := HF.out.fr.size; simp; omega
        intro g cap w1 ho hf _
        obtain ⟨hw1, hF'⟩ := FeedAt.line (by decide) HF.out ho hf
        have d1 : w1.cell? ⟨B, 1, none⟩ = some bv' := by rw [cell_of_row w1 B 1 _ _ _ hw1]; rfl
        have f1 : w1.frozen? ⟨B, 1, none⟩ = false := frozen_of_row w1 B 1 _ _ hw1
        clear ho hf hw1
        have HF' := hid hF'; clear hF'
        go_wp2
        go_roundw
        case rel => exact ⟨k + 1, _, by omega, by go_num, by rw [HS.out]; exact HF'.out⟩
        case measure => simp [intOf]; omega
      · have hne : ((ch.toNat : Int) == 10) = false := by
          rw [beq_eq_false_iff_ne]
          intro e
          exact h10 (UInt8.toNat.inj (by simp; omega))
        obtain ⟨ba, bc, hbv, _⟩ := own_len HF.out.at_.own
        have c1' : wr.cell? ⟨B, 1, none⟩ = some (.slice ba st.2.length bc) := by rw [c1, hbv]
        have c0 : wr.cell? ⟨B, 0, none⟩ = some (.int .i64 most) := by rw [cell_of_row wr B 0 _ _ _ HF.out.at_.heap]; rfl
        have HB := hid hbv; clear hbv c1
        have hpl : pln ch.toNat = (decide ((32 : Int) ≤ ch.toNat) && decide ((ch.toNat : Int) ≤ 126)) := rfl
        have HP := hid hpl; clear hpl
        by_cases hp : pln ch.toNat = true ∧ (st.2.length : Int) < most
        · obtain ⟨hp1, hp2⟩ := hp
          have hown := HF.out.at_.own
          rw [HB.out] at hown
          have hfs : feedStep most st ch = (st.1, st.2 ++ [ch]) := by simp [feedStep, h10, hp1, hp2]
          have HX := hid hfs; clear hfs
          rw [HP.out, Bool.and_eq_true] at hp1
          obtain ⟨e1, e2⟩ := hp1
          have hd2 : decide ((st.2.length : Int) < most) = true := by simpa using hp2
          clear hp2
          go_wp2_with fail
          go_quiet (fail)
          go_wp2_with fail
          refine wp_region_ord [(0, 0), (1, 0), (2, 0), (3, 0), (4, 0), (5, 0), (6, 0), (7, 0), (8, 0), (9, 1), (10, 1), (11, 1), (12, 1), (13, 1)] (fun w' => w'.cell? ⟨B, 1, none⟩ = some (.slice ba st.2.length bc) ∧ w'.cell? ⟨b, o + k, none⟩ = some (.int .u8 ch.toNat)) (by kernel_rfl) (by kernel_rfl) (by kernel_rfl) rfl (fun _ _ d _ _ h => by cases d <;> exact h) ⟨c1', hcr⟩ ?_
          iterate 9 (refine wpO_take ?_ rfl (by kernel_rfl) ?_ ?_; rotate_left; (· intro w' hS; go_simp; try with_reducible rfl); try simp only [Act.put, List.setIfInBounds_toArray, List.set_cons_zero, List.set_cons_succ])
          refine wpO_run rfl rfl (fun K hK => ?_)
          go_simp
          refine hK _ _ (fun _ => ⟨alloc_cell _ c1', alloc_cell _ hcr⟩) ?_
          clear hK K
          refine wpO_run rfl rfl (fun K hK => ?_)
          refine wp_append1 (.tmp 59) (.tmp 64) 28 rfl 5 (.int .u8 0) 1 Try.underlying28 Try.info_byte rfl _ rfl 0 st.2.length (bV st.2) (hown.alloc _) wr.heap.size 1 (.int .u8 ch.toNat) rfl (cell_new1 _ _ _ _) rfl hn2 (by decide) (Nat.zero_le _) ?_
          intro g cap w1 ho hf hg
          rw [← HB.out] at hf hg
          obtain ⟨hw1, hF'⟩ := FeedAt.sign (by decide) (by decide) ((HF.out.drewN nq).drew) ho hf hg
          have d1 : w1.cell? ⟨B, 1, none⟩ = some (.slice ba st.2.length bc) := by rw [cell_of_row w1 B 1 _ _ _ hw1, HB.out]; rfl
          have f1 : w1.frozen? ⟨B, 1, none⟩ = false := frozen_of_row w1 B 1 _ _ hw1
          have hS1 : w1.cell? ⟨b, o + k, none⟩ = some (.int .u8 ch.toNat) := by
            refine hf.cell (alloc_cell _ hcr) (fun e => ?_)
            rcases HF.out.blk b e.symm with h | h
            · exact HD.out _ hDb (.inr h.symm)
            · omega
          refine hK _ _ (fun _ => ⟨d1, hS1⟩) ?_
          clear hK K ho hf hw1 hg
          have HF' := hid hF'; clear hF'
          refine wpO_run rfl rfl (fun K hK => ?_)
          go_simp
          refine hK _ _ (fun _ => ⟨d1, hS1⟩) ?_
          clear hK K
          try simp only [Act.put, List.setIfInBounds_toArray, List.set_cons_zero, List.set_cons_succ]
          refine wpO_run rfl rfl (fun K hK => ?_)
          go_simp
          refine hK _ _ (fun _ => ⟨d1, hS1⟩) ?_
          clear hK K
          refine wpO_run rfl rfl (fun K hK => ?_)
          go_simp
          refine hK _ _ (last_skip (by kernel_rfl)) ?_
          clear hK K
          refine wpO_end ?_
          go_wp2
          go_roundw
          case rel => exact ⟨k + 1, _, by omega, by go_num, by rw [HS.out, HX.out]; exact HF'.out⟩
          case measure => simp [intOf]; omega
        · have hfs : feedStep most st ch = st := by simp only [feedStep, h10, hp, if_false]
          have HX := hid hfs; clear hfs
          by_cases e1 : decide ((32 : Int) ≤ ch.toNat) = true
          · by_cases e2 : decide ((ch.toNat : Int) ≤ 126) = true
            · have hd2 : decide ((st.2.length : Int) < most) = false := by
                rw [HP.out, e1, e2] at hp
                simpa using hp
              clear hp
              go_wp2_with fail
              go_quiet (fail)
              go_wp2
              go_roundw
              case rel => exact ⟨k + 1, _, by omega, by go_num, by rw [HS.out, HX.out]; exact HF.out.drewN _⟩
              case measure => simp [intOf]; omega
            · have e2' : decide ((ch.toNat : Int) ≤ 126) = false := by simpa using e2
              clear hp e2
              go_wp2_with fail
              go_quiet (fail)
              go_wp2
              go_roundw
              case rel => exact ⟨k + 1, _, by omega, by go_num, by rw [HS.out, HX.out]; exact HF.out.drewN _⟩
              case measure => simp [intOf]; omega
          · have e1' : decide ((32 : Int) ≤ ch.toNat) = false := by simpa using e1
            clear hp e1
            go_wp2_with fail
            go_quiet (fail)
            go_wp2
            go_roundw
            case rel => exact ⟨k + 1, _, by omega, by go_num, by rw [HS.out, HX.out]; exact HF.out.drewN _⟩
            case measure => simp [intOf]; omega
    · go_wp2
      go_ret
      obtain rfl : k = l.length := by omega
      rw [List.take_length] at hF
      exact ⟨_, _, rfl, hF⟩
end Go.Proofs.Ytlfiljebfnejbaa
