/- The statement NumTexts, walked. -/
import Derived.Test.YtjngddmjgcecnaaNumI
import Derived.Test.YtjngddmjgcecnaaNumber
import Derived.Test.YtjngddmjgcecnaaPrinted
namespace Go.Proofs.Ytjngddmjgcecnaa
open Go.RowKit

set_option maxRecDepth 100000 in
set_option maxHeartbeats 12800000 in
theorem numTexts_any (a b : ByteArray) (n : Int) (b0 : -9223372036854775808 ≤ n) (c0 : n ≤ 9223372036854775807) (w : World) (ha : a.size ≤ 1048576) (hb : b.size ≤ 1048576) :
    Calls Try.prog 7 #[.string a, .string b, .int .i64 n] w fun e w' => e = .returned (.bool true) ∧ Fr (fun _ => False) w w' := by
  have hai : (a.size : Int) ≤ 1048576 := by omega
  have hbi : (b.size : Int) ≤ 1048576 := by omega
  have HA := hid ha; have HB := hid hb; have B0 := hid b0; have C0 := hid c0
  clear ha hb b0 c0
  go_enter Try.func7, Try.ntmps7
  go_wp2_with fail
  refine (nfirst_any _).mono ?_
  rintro e w1 ⟨rfl, hf1⟩
  have HF1 := hid hf1
  clear hf1
  by_cases h1 : (3000 : Int) < a.size
  · go_wp2_with fail
    go_ret
    exact ⟨rfl, HF1.out⟩
  by_cases h2 : (3000 : Int) < b.size
  · go_wp2_with fail
    go_ret
    exact ⟨rfl, HF1.out⟩
  go_wp2_with fail
  refine (printed_any a (by have := HA.out; omega) _).mono ?_
  rintro e w2 ⟨rfl, rfl⟩
  by_cases hp1 : printed a = true
  rotate_left
  · rw [Bool.eq_false_iff.2 hp1]
    go_wp2_with fail
    go_ret
    exact ⟨rfl, HF1.out⟩
  rw [hp1]
  go_wp2_with fail
  refine (printed_any b (by have := HB.out; omega) _).mono ?_
  rintro e w2 ⟨rfl, rfl⟩
  by_cases hp2 : printed b = true
  rotate_left
  · rw [Bool.eq_false_iff.2 hp2]
    go_wp2_with fail
    go_ret
    exact ⟨rfl, HF1.out⟩
  rw [hp2]
  clear hp1 hp2
  go_wp2_with fail
  refine (vS_any a _).mono ?_
  rintro e w2 ⟨rfl, hf2⟩
  go_wp2_with fail
  refine (vS_any b _).mono ?_
  rintro e w3 ⟨rfl, hf3⟩
  have hadd := two_add a b (by omega) (by omega) w3
  have HF3 := hid (HF1.out.trans' (hf2.trans' hf3))
  clear hf2 hf3 HF1
  by_cases hlt : a.size + b.size < 4096
  rotate_left
  · rw [if_neg hlt, if_neg hlt] at hadd
    have HC := hid hadd
    have q1 : (4096 : Int) < (a.size : Int) + b.size + 1 := by omega
    clear hadd
    go_wp2_with fail
    refine HC.out.mono ?_
    rintro e w4 ⟨rfl, hf4⟩
    have HF4 := hid ((HF3.out.trans' hf4).alloc (.cells #[.int .i64 0, .int .i64 0, .string ⟨#[]⟩, .slice none 0 0] 24))
    clear hf4
    go_wp2_with fail
    go_ret
    exact ⟨rfl, HF4.out⟩
  rw [if_pos hlt, if_pos hlt] at hadd
  have q1 : ¬ (4096 : Int) < (a.size : Int) + b.size + 1 := by omega
  have hts := ba_size a b
  have hca := cut_a a b
  have hcb := cut_b a b
  obtain ⟨t, ht⟩ : ∃ t, a ++ b = t := ⟨_, rfl⟩
  rw [ht] at hadd hts hca hcb
  have HC := hid hadd; have HTS := hid hts; have HCA := hid hca; have HCB := hid hcb
  clear hadd hts hca hcb ht
  go_wp2_with fail
  refine HC.out.mono ?_
  rintro e w4 ⟨rfl, hf4⟩
  have hfa := hf4.alloc (.cells #[.int .i64 2, .int .i64 0, .string t, .slice none 0 0] 24)
  have HT0 := hid (heap_alloc_new w4 (.cells #[.int .i64 2, .int .i64 0, .string t, .slice none 0 0] 24))
  have HF4 := hid (HF3.out.trans' hfa)
  have hsl : ∀ w1 i j r, nSlice (VS t) (VI i) (VI j) = (VS r, 0) → Calls Try.prog 23 #[.agg #[.int .i64 2, .int .i64 0, .string t, .slice none 0 0], .agg #[.int .i64 0, .int .i64 i, .string ⟨#[]⟩, .slice none 0 0], .agg #[.int .i64 0, .int .i64 j, .string ⟨#[]⟩, .slice none 0 0]] w1 (GD (fun b => w1.heap.size ≤ b) w1 (VS r) 0) := fun w1 i j r hr => by
    have := nslice_any (VS t) (VI i) (VI j) _ _ _ w1 (VS.inn _ _ _) (VI.inn _ _ _) (VI.inn _ _ _) (show 1 + t.size + 0 ≤ 1073741824 by have := HTS.out; omega) (show 1 + 0 + 0 ≤ 1073741824 by decide)
    rw [hr] at this
    exact this
  have HSL := hid hsl
  clear hf4 hfa hsl HC HF3
  go_upto_region 9 with fail
  generalize w4.alloc (.cells #[.int .i64 2, .int .i64 0, .string t, .slice none 0 0] 24) = W4 at *
  generalize w4.heap.size = g at *
  go_cut [10, 11] from 62 to 70 (fun p c wx => ∃ g2 aP cP, p = .pointer (some ⟨g2, 0, none⟩) ∧ c = .int .i64 0 ∧ Hid (Fr (fun _ => False) W4 wx) ∧ Hid (wx.heap[g2]? = some (.cells #[.int .i64 (VS a).k, .int .i64 (VS a).n, .string (VS a).s, .slice aP (VS a).l.length cP] 24)))
  case first =>
    rename_i J K1 hJ hK1
    refine wpF_begin [0, 2, 3, 6, 7, 8] (fun w' => Fr (fun _ => False) W4 w') (by kernel_rfl) ?_
    have hSd : Fr (fun _ => False) W4 W4.drew := (Fr.refl _ _).drew
    (refine wpF_take (i := 0) ?_ (by kernel_rfl) (fun _ _ d _ _ h => by cases d <;> exact h) (by kernel_rfl) rfl (by kernel_rfl) (hSd) ?_ ?_; rotate_left; (· intro w' hS; have hh := Fr.heap hS HT0.out not_false; have z0 : World.cell? w' ⟨g, 0, none⟩ = some (.int .i64 2) := (cell_of_row _ _ 0 _ _ _ hh).trans rfl; have z1 : World.cell? w' ⟨g, 1, none⟩ = some (.int .i64 0) := (cell_of_row _ _ 1 _ _ _ hh).trans rfl; have z2 : World.cell? w' ⟨g, 2, none⟩ = some (.string t) := (cell_of_row _ _ 2 _ _ _ hh).trans rfl; have z3 : World.cell? w' ⟨g, 3, none⟩ = some (.slice none 0 0) := (cell_of_row _ _ 3 _ _ _ hh).trans rfl; go_simp; try with_reducible rfl); (try simp only [Act.put, List.setIfInBounds_toArray, List.set_cons_zero, List.set_cons_succ]))
    (refine wpF_take (i := 2) ?_ (by kernel_rfl) (fun _ _ d _ _ h => by cases d <;> exact h) (by kernel_rfl) rfl (by kernel_rfl) (hSd) ?_ ?_; rotate_left; (· intro w' hS; go_simp; try with_reducible rfl); (try simp only [Act.put, List.setIfInBounds_toArray, List.set_cons_zero, List.set_cons_succ]))
    (refine wpF_take (i := 3) ?_ (by kernel_rfl) (fun _ _ d _ _ h => by cases d <;> exact h) (by kernel_rfl) rfl (by kernel_rfl) (hSd) ?_ ?_; rotate_left; (· intro w' hS; go_simp; try with_reducible rfl); (try simp only [Act.put, List.setIfInBounds_toArray, List.set_cons_zero, List.set_cons_succ]))
    refine wpF_run2 (i := 1) (j := 9) (by kernel_rfl) rfl rfl (by kernel_rfl) (by kernel_rfl) (fun K hK => ?_) (fun K hK => ?_)
    · go_simp
      refine (vI_any 1 _).mono ?_
      rintro e w60 ⟨rfl, hf60⟩
      have hS60 := hSd.trans' hf60
      refine hK _ _ hS60 ?_
      clear hK K
      try simp only [Act.put, List.setIfInBounds_toArray, List.set_cons_zero, List.set_cons_succ]
      refine wpF_run2 (i := 4) (j := 9) (by kernel_rfl) rfl rfl (by kernel_rfl) (by kernel_rfl) (fun K hK => ?_) (fun K hK => ?_)
      · go_simp
        refine (vI_any (a.size : Int) _).mono ?_
        rintro e w61 ⟨rfl, hf61⟩
        have hS61 := hS60.trans' hf61
        refine hK _ _ hS61 ?_
        clear hK K
        try simp only [Act.put, List.setIfInBounds_toArray, List.set_cons_zero, List.set_cons_succ]
        refine wpF_run2 (i := 5) (j := 9) (by kernel_rfl) rfl rfl (by kernel_rfl) (by kernel_rfl) (fun K hK => ?_) (fun K hK => ?_)
        · go_simp
          refine (HSL.out _ _ _ a HCA.out).mono ?_
          rintro e w62 ⟨uP, rfl, hf62, hvP⟩
          obtain ⟨vP, rfl, aP, cP, usP, rfl, -⟩ := hvP.open
          have hS62 := hS61.trans' hf62
          refine hK _ _ hS62 ?_
          clear hK K
          try simp only [Act.put, List.setIfInBounds_toArray, List.set_cons_zero, List.set_cons_succ]
          (refine wpF_take (i := 6) ?_ (by kernel_rfl) (fun _ _ d _ _ h => by cases d <;> exact h) (by kernel_rfl) rfl (by kernel_rfl) (hS62) ?_ ?_; rotate_left; (· intro w' hS; go_simp; try with_reducible rfl); (try simp only [Act.put, List.setIfInBounds_toArray, List.set_cons_zero, List.set_cons_succ]))
          (refine wpF_take (i := 7) ?_ (by kernel_rfl) (fun _ _ d _ _ h => by cases d <;> exact h) (by kernel_rfl) rfl (by kernel_rfl) (hS62) ?_ ?_; rotate_left; (· intro w' hS; go_simp; try with_reducible rfl); (try simp only [Act.put, List.setIfInBounds_toArray, List.set_cons_zero, List.set_cons_succ]))
          (refine wpF_take (i := 8) ?_ (by kernel_rfl) (fun _ _ d _ _ h => by cases d <;> exact h) (by kernel_rfl) rfl (by kernel_rfl) (hS62) ?_ ?_; rotate_left; (· intro w' hS; go_simp; try with_reducible rfl); (try simp only [Act.put, List.setIfInBounds_toArray, List.set_cons_zero, List.set_cons_succ]))
          (refine wpF_run (i := 9) (by kernel_rfl) rfl (by kernel_rfl) (fun K hK => ?_); go_simp; refine hK _ _ (hS62.alloc _) ?_; clear hK K; (try simp only [Act.put, List.setIfInBounds_toArray, List.set_cons_zero, List.set_cons_succ]))
          have hS9 := hS62.alloc (.cells #[.int .i64 (VS a).k, .int .i64 (VS a).n, .string (VS a).s, .slice aP (VS a).l.length cP] 24)
          have hR9 := heap_alloc_new w62 (.cells #[.int .i64 (VS a).k, .int .i64 (VS a).n, .string (VS a).s, .slice aP (VS a).l.length cP] 24)
          have hG9 := hS62.size
          (refine wpF_run (i := 10) (by kernel_rfl) rfl (by kernel_rfl) (fun K hK => ?_); go_simp; refine hK _ _ (hS9) ?_; clear hK K; (try simp only [Act.put, List.setIfInBounds_toArray, List.set_cons_zero, List.set_cons_succ]))
          (refine wpF_run (i := 11) (by kernel_rfl) rfl (by kernel_rfl) (fun K hK => ?_); go_simp; refine hK _ _ (hS9) ?_; clear hK K; (try simp only [Act.put, List.setIfInBounds_toArray, List.set_cons_zero, List.set_cons_succ]))
          refine wpF_end (by kernel_rfl) ?_
          refine hK1 _ _ (Met.intro (hJ _ _ ?_))
          repeat apply Exists.intro
          refine ⟨?_, rfl⟩
          exact ⟨_, _, _, rfl, rfl, hid hS9, hid hR9⟩
        · go_simp
          have hSa := hS61.alloc (.cells #[.int .i64 0, .int .i64 0, .string ⟨#[]⟩, .slice none 0 0] 24)
          have hg : (w61.alloc (.cells #[.int .i64 0, .int .i64 0, .string ⟨#[]⟩, .slice none 0 0] 24)).heap[w61.heap.size]? = some (.cells #[.int .i64 0, .int .i64 0, .string ⟨#[]⟩, .slice none 0 0] 24) := heap_alloc_new w61 (.cells #[.int .i64 0, .int .i64 0, .string ⟨#[]⟩, .slice none 0 0] 24)
          have hG9 : W4.heap.size ≤ _ := hS61.size
          refine hK _ _ hSa ?_
          clear hK K
          try simp only [Act.put, List.setIfInBounds_toArray, List.set_cons_zero, List.set_cons_succ]
          refine wpF_run (i := 5) (by kernel_rfl) rfl (by kernel_rfl) (fun K hK => ?_); go_simp
          refine (HSL.out _ _ _ a HCA.out).mono ?_
          rintro e w62 ⟨uP, rfl, hf62, hvP⟩
          obtain ⟨vP, rfl, aP, cP, usP, rfl, -⟩ := hvP.open
          have hS62 := hSa.trans' hf62
          have hgl62 := heap_lt hg
          have hg := hf62.heap hg not_false
          refine hK _ _ hS62 ?_
          clear hK K
          try simp only [Act.put, List.setIfInBounds_toArray, List.set_cons_zero, List.set_cons_succ]
          (refine wpF_take (i := 6) ?_ (by kernel_rfl) (fun _ _ d _ _ h => by cases d <;> exact h) (by kernel_rfl) rfl (by kernel_rfl) (hS62) ?_ ?_; rotate_left; (· intro w' hS; go_simp; try with_reducible rfl); (try simp only [Act.put, List.setIfInBounds_toArray, List.set_cons_zero, List.set_cons_succ]))
          (refine wpF_take (i := 7) ?_ (by kernel_rfl) (fun _ _ d _ _ h => by cases d <;> exact h) (by kernel_rfl) rfl (by kernel_rfl) (hS62) ?_ ?_; rotate_left; (· intro w' hS; go_simp; try with_reducible rfl); (try simp only [Act.put, List.setIfInBounds_toArray, List.set_cons_zero, List.set_cons_succ]))
          (refine wpF_take (i := 8) ?_ (by kernel_rfl) (fun _ _ d _ _ h => by cases d <;> exact h) (by kernel_rfl) rfl (by kernel_rfl) (hS62) ?_ ?_; rotate_left; (· intro w' hS; go_simp; try with_reducible rfl); (try simp only [Act.put, List.setIfInBounds_toArray, List.set_cons_zero, List.set_cons_succ]))
          obtain ⟨hR9, hf9, y0, y1, y2, y3, yf⟩ := set4 hg (.int .i64 (VS a).k) (.int .i64 (VS a).n) (.string (VS a).s) (.slice aP (VS a).l.length cP)
          have hS9 := hS62.trans hf9 (U := fun _ => False) (fun _ _ h => h) (fun q hq e => by have := hG9; omega)
          (refine wpF_run (i := 10) (by kernel_rfl) rfl (by kernel_rfl) (fun K hK => ?_); go_simp; refine hK _ _ (hS9) ?_; clear hK K; (try simp only [Act.put, List.setIfInBounds_toArray, List.set_cons_zero, List.set_cons_succ]))
          (refine wpF_run (i := 11) (by kernel_rfl) rfl (by kernel_rfl) (fun K hK => ?_); go_simp; refine hK _ _ (hS9) ?_; clear hK K; (try simp only [Act.put, List.setIfInBounds_toArray, List.set_cons_zero, List.set_cons_succ]))
          refine wpF_end (by kernel_rfl) ?_
          refine hK1 _ _ (Met.intro (hJ _ _ ?_))
          repeat apply Exists.intro
          refine ⟨?_, rfl⟩
          exact ⟨_, _, _, rfl, rfl, hid hS9, hid hR9⟩
      · go_simp
        have hSa := hS60.alloc (.cells #[.int .i64 0, .int .i64 0, .string ⟨#[]⟩, .slice none 0 0] 24)
        have hg : (w60.alloc (.cells #[.int .i64 0, .int .i64 0, .string ⟨#[]⟩, .slice none 0 0] 24)).heap[w60.heap.size]? = some (.cells #[.int .i64 0, .int .i64 0, .string ⟨#[]⟩, .slice none 0 0] 24) := heap_alloc_new w60 (.cells #[.int .i64 0, .int .i64 0, .string ⟨#[]⟩, .slice none 0 0] 24)
        have hG9 : W4.heap.size ≤ _ := hS60.size
        refine hK _ _ hSa ?_
        clear hK K
        try simp only [Act.put, List.setIfInBounds_toArray, List.set_cons_zero, List.set_cons_succ]
        refine wpF_run (i := 4) (by kernel_rfl) rfl (by kernel_rfl) (fun K hK => ?_); go_simp
        refine (vI_any (a.size : Int) _).mono ?_
        rintro e w61 ⟨rfl, hf61⟩
        have hS61 := hSa.trans' hf61
        have hgl61 := heap_lt hg
        have hg := hf61.heap hg not_false
        refine hK _ _ hS61 ?_
        clear hK K
        try simp only [Act.put, List.setIfInBounds_toArray, List.set_cons_zero, List.set_cons_succ]
        refine wpF_run (i := 5) (by kernel_rfl) rfl (by kernel_rfl) (fun K hK => ?_); go_simp
        refine (HSL.out _ _ _ a HCA.out).mono ?_
        rintro e w62 ⟨uP, rfl, hf62, hvP⟩
        obtain ⟨vP, rfl, aP, cP, usP, rfl, -⟩ := hvP.open
        have hS62 := hS61.trans' hf62
        have hgl62 := heap_lt hg
        have hg := hf62.heap hg not_false
        refine hK _ _ hS62 ?_
        clear hK K
        try simp only [Act.put, List.setIfInBounds_toArray, List.set_cons_zero, List.set_cons_succ]
        (refine wpF_take (i := 6) ?_ (by kernel_rfl) (fun _ _ d _ _ h => by cases d <;> exact h) (by kernel_rfl) rfl (by kernel_rfl) (hS62) ?_ ?_; rotate_left; (· intro w' hS; go_simp; try with_reducible rfl); (try simp only [Act.put, List.setIfInBounds_toArray, List.set_cons_zero, List.set_cons_succ]))
        (refine wpF_take (i := 7) ?_ (by kernel_rfl) (fun _ _ d _ _ h => by cases d <;> exact h) (by kernel_rfl) rfl (by kernel_rfl) (hS62) ?_ ?_; rotate_left; (· intro w' hS; go_simp; try with_reducible rfl); (try simp only [Act.put, List.setIfInBounds_toArray, List.set_cons_zero, List.set_cons_succ]))
        (refine wpF_take (i := 8) ?_ (by kernel_rfl) (fun _ _ d _ _ h => by cases d <;> exact h) (by kernel_rfl) rfl (by kernel_rfl) (hS62) ?_ ?_; rotate_left; (· intro w' hS; go_simp; try with_reducible rfl); (try simp only [Act.put, List.setIfInBounds_toArray, List.set_cons_zero, List.set_cons_succ]))
        obtain ⟨hR9, hf9, y0, y1, y2, y3, yf⟩ := set4 hg (.int .i64 (VS a).k) (.int .i64 (VS a).n) (.string (VS a).s) (.slice aP (VS a).l.length cP)
        have hS9 := hS62.trans hf9 (U := fun _ => False) (fun _ _ h => h) (fun q hq e => by have := hG9; omega)
        (refine wpF_run (i := 10) (by kernel_rfl) rfl (by kernel_rfl) (fun K hK => ?_); go_simp; refine hK _ _ (hS9) ?_; clear hK K; (try simp only [Act.put, List.setIfInBounds_toArray, List.set_cons_zero, List.set_cons_succ]))
        (refine wpF_run (i := 11) (by kernel_rfl) rfl (by kernel_rfl) (fun K hK => ?_); go_simp; refine hK _ _ (hS9) ?_; clear hK K; (try simp only [Act.put, List.setIfInBounds_toArray, List.set_cons_zero, List.set_cons_succ]))
        refine wpF_end (by kernel_rfl) ?_
        refine hK1 _ _ (Met.intro (hJ _ _ ?_))
        repeat apply Exists.intro
        refine ⟨?_, rfl⟩
        exact ⟨_, _, _, rfl, rfl, hid hS9, hid hR9⟩
    · go_simp
      have hSa := hSd.alloc (.cells #[.int .i64 0, .int .i64 0, .string ⟨#[]⟩, .slice none 0 0] 24)
      have hg : (W4.drew.alloc (.cells #[.int .i64 0, .int .i64 0, .string ⟨#[]⟩, .slice none 0 0] 24)).heap[W4.heap.size]? = some (.cells #[.int .i64 0, .int .i64 0, .string ⟨#[]⟩, .slice none 0 0] 24) := heap_alloc_new W4.drew (.cells #[.int .i64 0, .int .i64 0, .string ⟨#[]⟩, .slice none 0 0] 24)
      have hG9 : W4.heap.size ≤ _ := hSd.size
      refine hK _ _ hSa ?_
      clear hK K
      try simp only [Act.put, List.setIfInBounds_toArray, List.set_cons_zero, List.set_cons_succ]
      refine wpF_run (i := 1) (by kernel_rfl) rfl (by kernel_rfl) (fun K hK => ?_); go_simp
      refine (vI_any 1 _).mono ?_
      rintro e w60 ⟨rfl, hf60⟩
      have hS60 := hSa.trans' hf60
      have hgl60 := heap_lt hg
      have hg := hf60.heap hg not_false
      refine hK _ _ hS60 ?_
      clear hK K
      try simp only [Act.put, List.setIfInBounds_toArray, List.set_cons_zero, List.set_cons_succ]
      refine wpF_run (i := 4) (by kernel_rfl) rfl (by kernel_rfl) (fun K hK => ?_); go_simp
      refine (vI_any (a.size : Int) _).mono ?_
      rintro e w61 ⟨rfl, hf61⟩
      have hS61 := hS60.trans' hf61
      have hgl61 := heap_lt hg
      have hg := hf61.heap hg not_false
      refine hK _ _ hS61 ?_
      clear hK K
      try simp only [Act.put, List.setIfInBounds_toArray, List.set_cons_zero, List.set_cons_succ]
      refine wpF_run (i := 5) (by kernel_rfl) rfl (by kernel_rfl) (fun K hK => ?_); go_simp
      refine (HSL.out _ _ _ a HCA.out).mono ?_
      rintro e w62 ⟨uP, rfl, hf62, hvP⟩
      obtain ⟨vP, rfl, aP, cP, usP, rfl, -⟩ := hvP.open
      have hS62 := hS61.trans' hf62
      have hgl62 := heap_lt hg
      have hg := hf62.heap hg not_false
      refine hK _ _ hS62 ?_
      clear hK K
      try simp only [Act.put, List.setIfInBounds_toArray, List.set_cons_zero, List.set_cons_succ]
      (refine wpF_take (i := 6) ?_ (by kernel_rfl) (fun _ _ d _ _ h => by cases d <;> exact h) (by kernel_rfl) rfl (by kernel_rfl) (hS62) ?_ ?_; rotate_left; (· intro w' hS; go_simp; try with_reducible rfl); (try simp only [Act.put, List.setIfInBounds_toArray, List.set_cons_zero, List.set_cons_succ]))
      (refine wpF_take (i := 7) ?_ (by kernel_rfl) (fun _ _ d _ _ h => by cases d <;> exact h) (by kernel_rfl) rfl (by kernel_rfl) (hS62) ?_ ?_; rotate_left; (· intro w' hS; go_simp; try with_reducible rfl); (try simp only [Act.put, List.setIfInBounds_toArray, List.set_cons_zero, List.set_cons_succ]))
      (refine wpF_take (i := 8) ?_ (by kernel_rfl) (fun _ _ d _ _ h => by cases d <;> exact h) (by kernel_rfl) rfl (by kernel_rfl) (hS62) ?_ ?_; rotate_left; (· intro w' hS; go_simp; try with_reducible rfl); (try simp only [Act.put, List.setIfInBounds_toArray, List.set_cons_zero, List.set_cons_succ]))
      obtain ⟨hR9, hf9, y0, y1, y2, y3, yf⟩ := set4 hg (.int .i64 (VS a).k) (.int .i64 (VS a).n) (.string (VS a).s) (.slice aP (VS a).l.length cP)
      have hS9 := hS62.trans hf9 (U := fun _ => False) (fun _ _ h => h) (fun q hq e => by have := hG9; omega)
      (refine wpF_run (i := 10) (by kernel_rfl) rfl (by kernel_rfl) (fun K hK => ?_); go_simp; refine hK _ _ (hS9) ?_; clear hK K; (try simp only [Act.put, List.setIfInBounds_toArray, List.set_cons_zero, List.set_cons_succ]))
      (refine wpF_run (i := 11) (by kernel_rfl) rfl (by kernel_rfl) (fun K hK => ?_); go_simp; refine hK _ _ (hS9) ?_; clear hK K; (try simp only [Act.put, List.setIfInBounds_toArray, List.set_cons_zero, List.set_cons_succ]))
      refine wpF_end (by kernel_rfl) ?_
      refine hK1 _ _ (Met.intro (hJ _ _ ?_))
      repeat apply Exists.intro
      refine ⟨?_, rfl⟩
      exact ⟨_, _, _, rfl, rfl, hid hS9, hid hR9⟩
  case rest =>
  obtain ⟨g2, aP, cP, rfl, rfl, HS5, HG5⟩ := hcut
  obtain ⟨W5, rfl⟩ : ∃ W, W = wc := ⟨wc, rfl⟩
  have HT5 := hid (HS5.out.heap HT0.out not_false)
  go_upto_region 10 with fail
  have hw1 : IntKind.i64.wrap ((a.size : Int) + 1) = (a.size : Int) + 1 := IntWalk.i64_in _ (by omega)
  have hw2 : IntKind.i64.wrap ((a.size : Int) + (b.size : Int)) = (a.size : Int) + (b.size : Int) := IntWalk.i64_in _ (by omega)
  go_cut [12, 13] from 71 to 85 (fun p c wx => ∃ g3 aP cP, p = .pointer (some ⟨g3, 0, none⟩) ∧ c = .int .i64 0 ∧ Hid (Fr (fun _ => False) W5 wx) ∧ Hid (wx.heap[g3]? = some (.cells #[.int .i64 (VS b).k, .int .i64 (VS b).n, .string (VS b).s, .slice aP (VS b).l.length cP] 24)))
  case first =>
    rename_i J K1 hJ hK1
    refine wpF_begin [0, 1, 2, 3, 5, 6, 7, 8, 9, 12, 13, 14] (fun w' => Fr (fun _ => False) W5 w') (by kernel_rfl) ?_
    have hSd : Fr (fun _ => False) W5 W5.drew := (Fr.refl _ _).drew
    (refine wpF_take (i := 0) ?_ (by kernel_rfl) (fun _ _ d _ _ h => by cases d <;> exact h) (by kernel_rfl) rfl (by kernel_rfl) (hSd) ?_ ?_; rotate_left; (· intro w' hS; have hh := Fr.heap hS HT5.out not_false; have z0 : World.cell? w' ⟨g, 0, none⟩ = some (.int .i64 2) := (cell_of_row _ _ 0 _ _ _ hh).trans rfl; have z1 : World.cell? w' ⟨g, 1, none⟩ = some (.int .i64 0) := (cell_of_row _ _ 1 _ _ _ hh).trans rfl; have z2 : World.cell? w' ⟨g, 2, none⟩ = some (.string t) := (cell_of_row _ _ 2 _ _ _ hh).trans rfl; have z3 : World.cell? w' ⟨g, 3, none⟩ = some (.slice none 0 0) := (cell_of_row _ _ 3 _ _ _ hh).trans rfl; go_simp; try with_reducible rfl); (try simp only [Act.put, List.setIfInBounds_toArray, List.set_cons_zero, List.set_cons_succ]))
    (refine wpF_take (i := 1) ?_ (by kernel_rfl) (fun _ _ d _ _ h => by cases d <;> exact h) (by kernel_rfl) rfl (by kernel_rfl) (hSd) ?_ ?_; rotate_left; (· intro w' hS; go_simp; try with_reducible rfl); (try simp only [Act.put, List.setIfInBounds_toArray, List.set_cons_zero, List.set_cons_succ]))
    (refine wpF_take (i := 2) ?_ (by kernel_rfl) (fun _ _ d _ _ h => by cases d <;> exact h) (by kernel_rfl) rfl (by kernel_rfl) (hSd) ?_ ?_; rotate_left; (· intro w' hS; go_simp; try with_reducible rfl); (try simp only [Act.put, List.setIfInBounds_toArray, List.set_cons_zero, List.set_cons_succ]))
    (refine wpF_take (i := 3) ?_ (by kernel_rfl) (fun _ _ d _ _ h => by cases d <;> exact h) (by kernel_rfl) rfl (by kernel_rfl) (hSd) ?_ ?_; rotate_left; (· intro w' hS; go_simp; try with_reducible rfl); (try simp only [Act.put, List.setIfInBounds_toArray, List.set_cons_zero, List.set_cons_succ]))
    (refine wpF_take (i := 5) ?_ (by kernel_rfl) (fun _ _ d _ _ h => by cases d <;> exact h) (by kernel_rfl) rfl (by kernel_rfl) (hSd) ?_ ?_; rotate_left; (· intro w' hS; go_simp; try with_reducible rfl); (try simp only [Act.put, List.setIfInBounds_toArray, List.set_cons_zero, List.set_cons_succ]))
    (refine wpF_take (i := 6) ?_ (by kernel_rfl) (fun _ _ d _ _ h => by cases d <;> exact h) (by kernel_rfl) rfl (by kernel_rfl) (hSd) ?_ ?_; rotate_left; (· intro w' hS; go_simp; try with_reducible rfl); (try simp only [Act.put, List.setIfInBounds_toArray, List.set_cons_zero, List.set_cons_succ]))
    (refine wpF_take (i := 7) ?_ (by kernel_rfl) (fun _ _ d _ _ h => by cases d <;> exact h) (by kernel_rfl) rfl (by kernel_rfl) (hSd) ?_ ?_; rotate_left; (· intro w' hS; go_simp; try with_reducible rfl); (try simp only [Act.put, List.setIfInBounds_toArray, List.set_cons_zero, List.set_cons_succ]))
    (refine wpF_take (i := 8) ?_ (by kernel_rfl) (fun _ _ d _ _ h => by cases d <;> exact h) (by kernel_rfl) rfl (by kernel_rfl) (hSd) ?_ ?_; rotate_left; (· intro w' hS; go_simp; try with_reducible rfl); (try simp only [Act.put, List.setIfInBounds_toArray, List.set_cons_zero, List.set_cons_succ]))
    (refine wpF_take (i := 9) ?_ (by kernel_rfl) (fun _ _ d _ _ h => by cases d <;> exact h) (by kernel_rfl) rfl (by kernel_rfl) (hSd) ?_ ?_; rotate_left; (· intro w' hS; go_simp; try with_reducible rfl); (try simp only [Act.put, List.setIfInBounds_toArray, List.set_cons_zero, List.set_cons_succ]))
    refine wpF_run2 (i := 4) (j := 15) (by kernel_rfl) rfl rfl (by kernel_rfl) (by kernel_rfl) (fun K hK => ?_) (fun K hK => ?_)
    · go_simp
      refine (vI_any ((a.size : Int) + 1) _).mono ?_
      rintro e w60 ⟨rfl, hf60⟩
      have hS60 := hSd.trans' hf60
      refine hK _ _ hS60 ?_
      clear hK K
      try simp only [Act.put, List.setIfInBounds_toArray, List.set_cons_zero, List.set_cons_succ]
      refine wpF_run2 (i := 10) (j := 15) (by kernel_rfl) rfl rfl (by kernel_rfl) (by kernel_rfl) (fun K hK => ?_) (fun K hK => ?_)
      · go_simp
        refine (vI_any ((a.size : Int) + b.size) _).mono ?_
        rintro e w61 ⟨rfl, hf61⟩
        have hS61 := hS60.trans' hf61
        refine hK _ _ hS61 ?_
        clear hK K
        try simp only [Act.put, List.setIfInBounds_toArray, List.set_cons_zero, List.set_cons_succ]
        refine wpF_run2 (i := 11) (j := 15) (by kernel_rfl) rfl rfl (by kernel_rfl) (by kernel_rfl) (fun K hK => ?_) (fun K hK => ?_)
        · go_simp
          refine (HSL.out _ _ _ b HCB.out).mono ?_
          rintro e w62 ⟨uP, rfl, hf62, hvP⟩
          obtain ⟨vP, rfl, aP, cP, usP, rfl, -⟩ := hvP.open
          have hS62 := hS61.trans' hf62
          refine hK _ _ hS62 ?_
          clear hK K
          try simp only [Act.put, List.setIfInBounds_toArray, List.set_cons_zero, List.set_cons_succ]
          (refine wpF_take (i := 12) ?_ (by kernel_rfl) (fun _ _ d _ _ h => by cases d <;> exact h) (by kernel_rfl) rfl (by kernel_rfl) (hS62) ?_ ?_; rotate_left; (· intro w' hS; go_simp; try with_reducible rfl); (try simp only [Act.put, List.setIfInBounds_toArray, List.set_cons_zero, List.set_cons_succ]))
          (refine wpF_take (i := 13) ?_ (by kernel_rfl) (fun _ _ d _ _ h => by cases d <;> exact h) (by kernel_rfl) rfl (by kernel_rfl) (hS62) ?_ ?_; rotate_left; (· intro w' hS; go_simp; try with_reducible rfl); (try simp only [Act.put, List.setIfInBounds_toArray, List.set_cons_zero, List.set_cons_succ]))
          (refine wpF_take (i := 14) ?_ (by kernel_rfl) (fun _ _ d _ _ h => by cases d <;> exact h) (by kernel_rfl) rfl (by kernel_rfl) (hS62) ?_ ?_; rotate_left; (· intro w' hS; go_simp; try with_reducible rfl); (try simp only [Act.put, List.setIfInBounds_toArray, List.set_cons_zero, List.set_cons_succ]))
          (refine wpF_run (i := 15) (by kernel_rfl) rfl (by kernel_rfl) (fun K hK => ?_); go_simp; refine hK _ _ (hS62.alloc _) ?_; clear hK K; (try simp only [Act.put, List.setIfInBounds_toArray, List.set_cons_zero, List.set_cons_succ]))
          have hS9 := hS62.alloc (.cells #[.int .i64 (VS b).k, .int .i64 (VS b).n, .string (VS b).s, .slice aP (VS b).l.length cP] 24)
          have hR9 := heap_alloc_new w62 (.cells #[.int .i64 (VS b).k, .int .i64 (VS b).n, .string (VS b).s, .slice aP (VS b).l.length cP] 24)
          have hG9 := hS62.size
          (refine wpF_run (i := 16) (by kernel_rfl) rfl (by kernel_rfl) (fun K hK => ?_); go_simp; refine hK _ _ (hS9) ?_; clear hK K; (try simp only [Act.put, List.setIfInBounds_toArray, List.set_cons_zero, List.set_cons_succ]))
          (refine wpF_run (i := 17) (by kernel_rfl) rfl (by kernel_rfl) (fun K hK => ?_); go_simp; refine hK _ _ (hS9) ?_; clear hK K; (try simp only [Act.put, List.setIfInBounds_toArray, List.set_cons_zero, List.set_cons_succ]))
          refine wpF_end (by kernel_rfl) ?_
          refine hK1 _ _ (Met.intro (hJ _ _ ?_))
          repeat apply Exists.intro
          refine ⟨?_, rfl⟩
          exact ⟨_, _, _, rfl, rfl, hid hS9, hid hR9⟩
        · go_simp
          have hSa := hS61.alloc (.cells #[.int .i64 0, .int .i64 0, .string ⟨#[]⟩, .slice none 0 0] 24)
          have hg : (w61.alloc (.cells #[.int .i64 0, .int .i64 0, .string ⟨#[]⟩, .slice none 0 0] 24)).heap[w61.heap.size]? = some (.cells #[.int .i64 0, .int .i64 0, .string ⟨#[]⟩, .slice none 0 0] 24) := heap_alloc_new w61 (.cells #[.int .i64 0, .int .i64 0, .string ⟨#[]⟩, .slice none 0 0] 24)
          have hG9 : W5.heap.size ≤ _ := hS61.size
          refine hK _ _ hSa ?_
          clear hK K
          try simp only [Act.put, List.setIfInBounds_toArray, List.set_cons_zero, List.set_cons_succ]
          refine wpF_run (i := 11) (by kernel_rfl) rfl (by kernel_rfl) (fun K hK => ?_); go_simp
          refine (HSL.out _ _ _ b HCB.out).mono ?_
          rintro e w62 ⟨uP, rfl, hf62, hvP⟩
          obtain ⟨vP, rfl, aP, cP, usP, rfl, -⟩ := hvP.open
          have hS62 := hSa.trans' hf62
          have hgl62 := heap_lt hg
          have hg := hf62.heap hg not_false
          refine hK _ _ hS62 ?_
          clear hK K
          try simp only [Act.put, List.setIfInBounds_toArray, List.set_cons_zero, List.set_cons_succ]
          (refine wpF_take (i := 12) ?_ (by kernel_rfl) (fun _ _ d _ _ h => by cases d <;> exact h) (by kernel_rfl) rfl (by kernel_rfl) (hS62) ?_ ?_; rotate_left; (· intro w' hS; go_simp; try with_reducible rfl); (try simp only [Act.put, List.setIfInBounds_toArray, List.set_cons_zero, List.set_cons_succ]))
          (refine wpF_take (i := 13) ?_ (by kernel_rfl) (fun _ _ d _ _ h => by cases d <;> exact h) (by kernel_rfl) rfl (by kernel_rfl) (hS62) ?_ ?_; rotate_left; (· intro w' hS; go_simp; try with_reducible rfl); (try simp only [Act.put, List.setIfInBounds_toArray, List.set_cons_zero, List.set_cons_succ]))
          (refine wpF_take (i := 14) ?_ (by kernel_rfl) (fun _ _ d _ _ h => by cases d <;> exact h) (by kernel_rfl) rfl (by kernel_rfl) (hS62) ?_ ?_; rotate_left; (· intro w' hS; go_simp; try with_reducible rfl); (try simp only [Act.put, List.setIfInBounds_toArray, List.set_cons_zero, List.set_cons_succ]))
          obtain ⟨hR9, hf9, y0, y1, y2, y3, yf⟩ := set4 hg (.int .i64 (VS b).k) (.int .i64 (VS b).n) (.string (VS b).s) (.slice aP (VS b).l.length cP)
          have hS9 := hS62.trans hf9 (U := fun _ => False) (fun _ _ h => h) (fun q hq e => by have := hG9; omega)
          (refine wpF_run (i := 16) (by kernel_rfl) rfl (by kernel_rfl) (fun K hK => ?_); go_simp; refine hK _ _ (hS9) ?_; clear hK K; (try simp only [Act.put, List.setIfInBounds_toArray, List.set_cons_zero, List.set_cons_succ]))
          (refine wpF_run (i := 17) (by kernel_rfl) rfl (by kernel_rfl) (fun K hK => ?_); go_simp; refine hK _ _ (hS9) ?_; clear hK K; (try simp only [Act.put, List.setIfInBounds_toArray, List.set_cons_zero, List.set_cons_succ]))
          refine wpF_end (by kernel_rfl) ?_
          refine hK1 _ _ (Met.intro (hJ _ _ ?_))
          repeat apply Exists.intro
          refine ⟨?_, rfl⟩
          exact ⟨_, _, _, rfl, rfl, hid hS9, hid hR9⟩
      · go_simp
        have hSa := hS60.alloc (.cells #[.int .i64 0, .int .i64 0, .string ⟨#[]⟩, .slice none 0 0] 24)
        have hg : (w60.alloc (.cells #[.int .i64 0, .int .i64 0, .string ⟨#[]⟩, .slice none 0 0] 24)).heap[w60.heap.size]? = some (.cells #[.int .i64 0, .int .i64 0, .string ⟨#[]⟩, .slice none 0 0] 24) := heap_alloc_new w60 (.cells #[.int .i64 0, .int .i64 0, .string ⟨#[]⟩, .slice none 0 0] 24)
        have hG9 : W5.heap.size ≤ _ := hS60.size
        refine hK _ _ hSa ?_
        clear hK K
        try simp only [Act.put, List.setIfInBounds_toArray, List.set_cons_zero, List.set_cons_succ]
        refine wpF_run (i := 10) (by kernel_rfl) rfl (by kernel_rfl) (fun K hK => ?_); go_simp
        refine (vI_any ((a.size : Int) + b.size) _).mono ?_
        rintro e w61 ⟨rfl, hf61⟩
        have hS61 := hSa.trans' hf61
        have hgl61 := heap_lt hg
        have hg := hf61.heap hg not_false
        refine hK _ _ hS61 ?_
        clear hK K
        try simp only [Act.put, List.setIfInBounds_toArray, List.set_cons_zero, List.set_cons_succ]
        refine wpF_run (i := 11) (by kernel_rfl) rfl (by kernel_rfl) (fun K hK => ?_); go_simp
        refine (HSL.out _ _ _ b HCB.out).mono ?_
        rintro e w62 ⟨uP, rfl, hf62, hvP⟩
        obtain ⟨vP, rfl, aP, cP, usP, rfl, -⟩ := hvP.open
        have hS62 := hS61.trans' hf62
        have hgl62 := heap_lt hg
        have hg := hf62.heap hg not_false
        refine hK _ _ hS62 ?_
        clear hK K
        try simp only [Act.put, List.setIfInBounds_toArray, List.set_cons_zero, List.set_cons_succ]
        (refine wpF_take (i := 12) ?_ (by kernel_rfl) (fun _ _ d _ _ h => by cases d <;> exact h) (by kernel_rfl) rfl (by kernel_rfl) (hS62) ?_ ?_; rotate_left; (· intro w' hS; go_simp; try with_reducible rfl); (try simp only [Act.put, List.setIfInBounds_toArray, List.set_cons_zero, List.set_cons_succ]))
        (refine wpF_take (i := 13) ?_ (by kernel_rfl) (fun _ _ d _ _ h => by cases d <;> exact h) (by kernel_rfl) rfl (by kernel_rfl) (hS62) ?_ ?_; rotate_left; (· intro w' hS; go_simp; try with_reducible rfl); (try simp only [Act.put, List.setIfInBounds_toArray, List.set_cons_zero, List.set_cons_succ]))
        (refine wpF_take (i := 14) ?_ (by kernel_rfl) (fun _ _ d _ _ h => by cases d <;> exact h) (by kernel_rfl) rfl (by kernel_rfl) (hS62) ?_ ?_; rotate_left; (· intro w' hS; go_simp; try with_reducible rfl); (try simp only [Act.put, List.setIfInBounds_toArray, List.set_cons_zero, List.set_cons_succ]))
        obtain ⟨hR9, hf9, y0, y1, y2, y3, yf⟩ := set4 hg (.int .i64 (VS b).k) (.int .i64 (VS b).n) (.string (VS b).s) (.slice aP (VS b).l.length cP)
        have hS9 := hS62.trans hf9 (U := fun _ => False) (fun _ _ h => h) (fun q hq e => by have := hG9; omega)
        (refine wpF_run (i := 16) (by kernel_rfl) rfl (by kernel_rfl) (fun K hK => ?_); go_simp; refine hK _ _ (hS9) ?_; clear hK K; (try simp only [Act.put, List.setIfInBounds_toArray, List.set_cons_zero, List.set_cons_succ]))
        (refine wpF_run (i := 17) (by kernel_rfl) rfl (by kernel_rfl) (fun K hK => ?_); go_simp; refine hK _ _ (hS9) ?_; clear hK K; (try simp only [Act.put, List.setIfInBounds_toArray, List.set_cons_zero, List.set_cons_succ]))
        refine wpF_end (by kernel_rfl) ?_
        refine hK1 _ _ (Met.intro (hJ _ _ ?_))
        repeat apply Exists.intro
        refine ⟨?_, rfl⟩
        exact ⟨_, _, _, rfl, rfl, hid hS9, hid hR9⟩
    · go_simp
      have hSa := hSd.alloc (.cells #[.int .i64 0, .int .i64 0, .string ⟨#[]⟩, .slice none 0 0] 24)
      have hg : (W5.drew.alloc (.cells #[.int .i64 0, .int .i64 0, .string ⟨#[]⟩, .slice none 0 0] 24)).heap[W5.heap.size]? = some (.cells #[.int .i64 0, .int .i64 0, .string ⟨#[]⟩, .slice none 0 0] 24) := heap_alloc_new W5.drew (.cells #[.int .i64 0, .int .i64 0, .string ⟨#[]⟩, .slice none 0 0] 24)
      have hG9 : W5.heap.size ≤ _ := hSd.size
      refine hK _ _ hSa ?_
      clear hK K
      try simp only [Act.put, List.setIfInBounds_toArray, List.set_cons_zero, List.set_cons_succ]
      refine wpF_run (i := 4) (by kernel_rfl) rfl (by kernel_rfl) (fun K hK => ?_); go_simp
      refine (vI_any ((a.size : Int) + 1) _).mono ?_
      rintro e w60 ⟨rfl, hf60⟩
      have hS60 := hSa.trans' hf60
      have hgl60 := heap_lt hg
      have hg := hf60.heap hg not_false
      refine hK _ _ hS60 ?_
      clear hK K
      try simp only [Act.put, List.setIfInBounds_toArray, List.set_cons_zero, List.set_cons_succ]
      refine wpF_run (i := 10) (by kernel_rfl) rfl (by kernel_rfl) (fun K hK => ?_); go_simp
      refine (vI_any ((a.size : Int) + b.size) _).mono ?_
      rintro e w61 ⟨rfl, hf61⟩
      have hS61 := hS60.trans' hf61
      have hgl61 := heap_lt hg
      have hg := hf61.heap hg not_false
      refine hK _ _ hS61 ?_
      clear hK K
      try simp only [Act.put, List.setIfInBounds_toArray, List.set_cons_zero, List.set_cons_succ]
      refine wpF_run (i := 11) (by kernel_rfl) rfl (by kernel_rfl) (fun K hK => ?_); go_simp
      refine (HSL.out _ _ _ b HCB.out).mono ?_
      rintro e w62 ⟨uP, rfl, hf62, hvP⟩
      obtain ⟨vP, rfl, aP, cP, usP, rfl, -⟩ := hvP.open
      have hS62 := hS61.trans' hf62
      have hgl62 := heap_lt hg
      have hg := hf62.heap hg not_false
      refine hK _ _ hS62 ?_
      clear hK K
      try simp only [Act.put, List.setIfInBounds_toArray, List.set_cons_zero, List.set_cons_succ]
      (refine wpF_take (i := 12) ?_ (by kernel_rfl) (fun _ _ d _ _ h => by cases d <;> exact h) (by kernel_rfl) rfl (by kernel_rfl) (hS62) ?_ ?_; rotate_left; (· intro w' hS; go_simp; try with_reducible rfl); (try simp only [Act.put, List.setIfInBounds_toArray, List.set_cons_zero, List.set_cons_succ]))
      (refine wpF_take (i := 13) ?_ (by kernel_rfl) (fun _ _ d _ _ h => by cases d <;> exact h) (by kernel_rfl) rfl (by kernel_rfl) (hS62) ?_ ?_; rotate_left; (· intro w' hS; go_simp; try with_reducible rfl); (try simp only [Act.put, List.setIfInBounds_toArray, List.set_cons_zero, List.set_cons_succ]))
      (refine wpF_take (i := 14) ?_ (by kernel_rfl) (fun _ _ d _ _ h => by cases d <;> exact h) (by kernel_rfl) rfl (by kernel_rfl) (hS62) ?_ ?_; rotate_left; (· intro w' hS; go_simp; try with_reducible rfl); (try simp only [Act.put, List.setIfInBounds_toArray, List.set_cons_zero, List.set_cons_succ]))
      obtain ⟨hR9, hf9, y0, y1, y2, y3, yf⟩ := set4 hg (.int .i64 (VS b).k) (.int .i64 (VS b).n) (.string (VS b).s) (.slice aP (VS b).l.length cP)
      have hS9 := hS62.trans hf9 (U := fun _ => False) (fun _ _ h => h) (fun q hq e => by have := hG9; omega)
      (refine wpF_run (i := 16) (by kernel_rfl) rfl (by kernel_rfl) (fun K hK => ?_); go_simp; refine hK _ _ (hS9) ?_; clear hK K; (try simp only [Act.put, List.setIfInBounds_toArray, List.set_cons_zero, List.set_cons_succ]))
      (refine wpF_run (i := 17) (by kernel_rfl) rfl (by kernel_rfl) (fun K hK => ?_); go_simp; refine hK _ _ (hS9) ?_; clear hK K; (try simp only [Act.put, List.setIfInBounds_toArray, List.set_cons_zero, List.set_cons_succ]))
      refine wpF_end (by kernel_rfl) ?_
      refine hK1 _ _ (Met.intro (hJ _ _ ?_))
      repeat apply Exists.intro
      refine ⟨?_, rfl⟩
      exact ⟨_, _, _, rfl, rfl, hid hS9, hid hR9⟩
  case rest =>
  obtain ⟨g3, aQ, cQ, rfl, rfl, HS6, HG6⟩ := hcut
  obtain ⟨W6, rfl⟩ : ∃ W, W = wc := ⟨wc, rfl⟩
  have HT6 := hid (HS6.out.heap HT5.out not_false)
  have HG56 := hid (HS6.out.heap HG5.out not_false)
  have HF6 := hid (HF4.out.trans' (HS5.out.trans' HS6.out))
  have x2 : W6.cell? ⟨g2, 2, none⟩ = some (.string a) := (cell_of_row _ _ 2 _ _ _ HG56.out).trans rfl
  have y2 : W6.cell? ⟨g3, 2, none⟩ = some (.string b) := (cell_of_row _ _ 2 _ _ _ HG6.out).trans rfl
  have t2 : W6.cell? ⟨g, 2, none⟩ = some (.string t) := (cell_of_row _ _ 2 _ _ _ HT6.out).trans rfl
  clear HG5 HG6 HG56 HCA HCB
  by_cases hts0 : t.size = 0
  · have q2 : ((t.size : Int) == 0) = true := by rw [hts0]; rfl
    clear hts0
    go_wp2_with fail
    go_ret
    exact ⟨rfl, HF6.out⟩
  have q2 : ((t.size : Int) == 0) = false := by rw [beq_eq_false_iff_ne]; omega
  have htI : (t.size : Int) ≤ 6000 := by have := HTS.out; omega
  obtain ⟨k, hk⟩ : ∃ k : Nat, n % (t.size : Int) = k := ⟨(n % (t.size : Int)).toNat, by have := Int.emod_nonneg n (show (t.size : Int) ≠ 0 by omega); omega⟩
  have hkl : k < t.size := by have := Int.emod_lt_of_pos n (show (0 : Int) < t.size by omega); omega
  have HK := hid hk
  clear hk
  go_wp2_with fail
  refine (number_any n t.size _ (by omega) (by omega) B0.out C0.out).mono ?_
  rintro e w7 ⟨rfl, rfl⟩
  rw [HK.out]
  have hkI : (k : Int) ≤ 6000 := by omega
  have hwr : IntKind.i64.wrap ((k : Int) + 1) = (k : Int) + 1 := IntWalk.i64_in _ (by omega)
  have hix : ∀ w1, Calls Try.prog 20 #[.agg #[.int .i64 2, .int .i64 0, .string t, .slice none 0 0], .agg #[.int .i64 0, .int .i64 ((k : Int) + 1), .string ⟨#[]⟩, .slice none 0 0]] w1 (GD (fun b => w1.heap.size ≤ b) w1 (VS (t.extract k (k + 1))) 0) := fun w1 => by
    have := index_any (VS t) (VI ((k : Int) + 1)) _ _ w1 (VS.inn _ _ _) (VI.inn _ _ _) (show 1 + t.size + 0 ≤ 1073741824 by omega)
    rw [idx_text t k hkl] at this
    exact this
  have hpu : ∀ w1, Calls Try.prog 18 #[.agg #[.int .i64 2, .int .i64 0, .string t, .slice none 0 0], .agg #[.int .i64 0, .int .i64 ((k : Int) + 1), .string ⟨#[]⟩, .slice none 0 0], .agg #[.int .i64 2, .int .i64 0, .string ⟨#[126]⟩, .slice none 0 0]] w1 (GD (fun b => w1.heap.size ≤ b) w1 (VS (t.extract 0 k ++ ⟨#[126]⟩ ++ t.extract (k + 1) t.size)) 0) := fun w1 => by
    have := nput_any (VS t) (VI ((k : Int) + 1)) (VS ⟨#[126]⟩) _ _ _ w1 (VS.inn _ _ _) (VI.inn _ _ _) (VS.inn _ _ _) (show 1 + t.size + 0 ≤ 1073741824 by omega) (by decide)
    rw [put_text t ⟨#[126]⟩ k hkl rfl] at this
    exact this
  have HIX := hid hix; have HPU := hid hpu
  clear hix hpu x2 y2 t2 HSL
  go_upto_region 16 with fail
  go_cut [15, 16] from 117 to 124 (fun p c wx => ∃ g4 aP cP, p = .pointer (some ⟨g4, 0, none⟩) ∧ c = .int .i64 0 ∧ Hid (Fr (fun _ => False) W6 wx) ∧ Hid (wx.heap[g4]? = some (.cells #[.int .i64 (VS (t.extract k (k + 1))).k, .int .i64 (VS (t.extract k (k + 1))).n, .string (VS (t.extract k (k + 1))).s, .slice aP (VS (t.extract k (k + 1))).l.length cP] 24)))
  case first =>
    rename_i J K1 hJ hK1
    refine wpF_begin [0, 1, 2, 5, 6, 7] (fun w' => Fr (fun _ => False) W6 w') (by kernel_rfl) ?_
    have hSd : Fr (fun _ => False) W6 W6.drew := (Fr.refl _ _).drew
    (refine wpF_take (i := 0) ?_ (by kernel_rfl) (fun _ _ d _ _ h => by cases d <;> exact h) (by kernel_rfl) rfl (by kernel_rfl) (hSd) ?_ ?_; rotate_left; (· intro w' hS; have hh := Fr.heap hS HT6.out not_false; have z0 : World.cell? w' ⟨g, 0, none⟩ = some (.int .i64 2) := (cell_of_row _ _ 0 _ _ _ hh).trans rfl; have z1 : World.cell? w' ⟨g, 1, none⟩ = some (.int .i64 0) := (cell_of_row _ _ 1 _ _ _ hh).trans rfl; have z2 : World.cell? w' ⟨g, 2, none⟩ = some (.string t) := (cell_of_row _ _ 2 _ _ _ hh).trans rfl; have z3 : World.cell? w' ⟨g, 3, none⟩ = some (.slice none 0 0) := (cell_of_row _ _ 3 _ _ _ hh).trans rfl; go_simp; try with_reducible rfl); (try simp only [Act.put, List.setIfInBounds_toArray, List.set_cons_zero, List.set_cons_succ]))
    (refine wpF_take (i := 1) ?_ (by kernel_rfl) (fun _ _ d _ _ h => by cases d <;> exact h) (by kernel_rfl) rfl (by kernel_rfl) (hSd) ?_ ?_; rotate_left; (· intro w' hS; go_simp; try with_reducible rfl); (try simp only [Act.put, List.setIfInBounds_toArray, List.set_cons_zero, List.set_cons_succ]))
    (refine wpF_take (i := 2) ?_ (by kernel_rfl) (fun _ _ d _ _ h => by cases d <;> exact h) (by kernel_rfl) rfl (by kernel_rfl) (hSd) ?_ ?_; rotate_left; (· intro w' hS; go_simp; try with_reducible rfl); (try simp only [Act.put, List.setIfInBounds_toArray, List.set_cons_zero, List.set_cons_succ]))
    refine wpF_run2 (i := 3) (j := 8) (by kernel_rfl) rfl rfl (by kernel_rfl) (by kernel_rfl) (fun K hK => ?_) (fun K hK => ?_)
    · go_simp
      refine (vI_any ((k : Int) + 1) _).mono ?_
      rintro e w60 ⟨rfl, hf60⟩
      have hS60 := hSd.trans' hf60
      refine hK _ _ hS60 ?_
      clear hK K
      try simp only [Act.put, List.setIfInBounds_toArray, List.set_cons_zero, List.set_cons_succ]
      refine wpF_run2 (i := 4) (j := 8) (by kernel_rfl) rfl rfl (by kernel_rfl) (by kernel_rfl) (fun K hK => ?_) (fun K hK => ?_)
      · go_simp
        refine (HIX.out _).mono ?_
        rintro e w61 ⟨uP, rfl, hf61, hvP⟩
        obtain ⟨vP, rfl, aP, cP, usP, rfl, -⟩ := hvP.open
        have hS61 := hS60.trans' hf61
        refine hK _ _ hS61 ?_
        clear hK K
        try simp only [Act.put, List.setIfInBounds_toArray, List.set_cons_zero, List.set_cons_succ]
        (refine wpF_take (i := 5) ?_ (by kernel_rfl) (fun _ _ d _ _ h => by cases d <;> exact h) (by kernel_rfl) rfl (by kernel_rfl) (hS61) ?_ ?_; rotate_left; (· intro w' hS; go_simp; try with_reducible rfl); (try simp only [Act.put, List.setIfInBounds_toArray, List.set_cons_zero, List.set_cons_succ]))
        (refine wpF_take (i := 6) ?_ (by kernel_rfl) (fun _ _ d _ _ h => by cases d <;> exact h) (by kernel_rfl) rfl (by kernel_rfl) (hS61) ?_ ?_; rotate_left; (· intro w' hS; go_simp; try with_reducible rfl); (try simp only [Act.put, List.setIfInBounds_toArray, List.set_cons_zero, List.set_cons_succ]))
        (refine wpF_take (i := 7) ?_ (by kernel_rfl) (fun _ _ d _ _ h => by cases d <;> exact h) (by kernel_rfl) rfl (by kernel_rfl) (hS61) ?_ ?_; rotate_left; (· intro w' hS; go_simp; try with_reducible rfl); (try simp only [Act.put, List.setIfInBounds_toArray, List.set_cons_zero, List.set_cons_succ]))
        (refine wpF_run (i := 8) (by kernel_rfl) rfl (by kernel_rfl) (fun K hK => ?_); go_simp; refine hK _ _ (hS61.alloc _) ?_; clear hK K; (try simp only [Act.put, List.setIfInBounds_toArray, List.set_cons_zero, List.set_cons_succ]))
        have hS9 := hS61.alloc (.cells #[.int .i64 (VS (t.extract k (k + 1))).k, .int .i64 (VS (t.extract k (k + 1))).n, .string (VS (t.extract k (k + 1))).s, .slice aP (VS (t.extract k (k + 1))).l.length cP] 24)
        have hR9 := heap_alloc_new w61 (.cells #[.int .i64 (VS (t.extract k (k + 1))).k, .int .i64 (VS (t.extract k (k + 1))).n, .string (VS (t.extract k (k + 1))).s, .slice aP (VS (t.extract k (k + 1))).l.length cP] 24)
        have hG9 := hS61.size
        (refine wpF_run (i := 9) (by kernel_rfl) rfl (by kernel_rfl) (fun K hK => ?_); go_simp; refine hK _ _ (hS9) ?_; clear hK K; (try simp only [Act.put, List.setIfInBounds_toArray, List.set_cons_zero, List.set_cons_succ]))
        (refine wpF_run (i := 10) (by kernel_rfl) rfl (by kernel_rfl) (fun K hK => ?_); go_simp; refine hK _ _ (hS9) ?_; clear hK K; (try simp only [Act.put, List.setIfInBounds_toArray, List.set_cons_zero, List.set_cons_succ]))
        refine wpF_end (by kernel_rfl) ?_
        refine hK1 _ _ (Met.intro (hJ _ _ ?_))
        repeat apply Exists.intro
        refine ⟨?_, rfl⟩
        exact ⟨_, _, _, rfl, rfl, hid hS9, hid hR9⟩
      · go_simp
        have hSa := hS60.alloc (.cells #[.int .i64 0, .int .i64 0, .string ⟨#[]⟩, .slice none 0 0] 24)
        have hg : (w60.alloc (.cells #[.int .i64 0, .int .i64 0, .string ⟨#[]⟩, .slice none 0 0] 24)).heap[w60.heap.size]? = some (.cells #[.int .i64 0, .int .i64 0, .string ⟨#[]⟩, .slice none 0 0] 24) := heap_alloc_new w60 (.cells #[.int .i64 0, .int .i64 0, .string ⟨#[]⟩, .slice none 0 0] 24)
        have hG9 : W6.heap.size ≤ _ := hS60.size
        refine hK _ _ hSa ?_
        clear hK K
        try simp only [Act.put, List.setIfInBounds_toArray, List.set_cons_zero, List.set_cons_succ]
        refine wpF_run (i := 4) (by kernel_rfl) rfl (by kernel_rfl) (fun K hK => ?_); go_simp
        refine (HIX.out _).mono ?_
        rintro e w61 ⟨uP, rfl, hf61, hvP⟩
        obtain ⟨vP, rfl, aP, cP, usP, rfl, -⟩ := hvP.open
        have hS61 := hSa.trans' hf61
        have hgl61 := heap_lt hg
        have hg := hf61.heap hg not_false
        refine hK _ _ hS61 ?_
        clear hK K
        try simp only [Act.put, List.setIfInBounds_toArray, List.set_cons_zero, List.set_cons_succ]
        (refine wpF_take (i := 5) ?_ (by kernel_rfl) (fun _ _ d _ _ h => by cases d <;> exact h) (by kernel_rfl) rfl (by kernel_rfl) (hS61) ?_ ?_; rotate_left; (· intro w' hS; go_simp; try with_reducible rfl); (try simp only [Act.put, List.setIfInBounds_toArray, List.set_cons_zero, List.set_cons_succ]))
        (refine wpF_take (i := 6) ?_ (by kernel_rfl) (fun _ _ d _ _ h => by cases d <;> exact h) (by kernel_rfl) rfl (by kernel_rfl) (hS61) ?_ ?_; rotate_left; (· intro w' hS; go_simp; try with_reducible rfl); (try simp only [Act.put, List.setIfInBounds_toArray, List.set_cons_zero, List.set_cons_succ]))
        (refine wpF_take (i := 7) ?_ (by kernel_rfl) (fun _ _ d _ _ h => by cases d <;> exact h) (by kernel_rfl) rfl (by kernel_rfl) (hS61) ?_ ?_; rotate_left; (· intro w' hS; go_simp; try with_reducible rfl); (try simp only [Act.put, List.setIfInBounds_toArray, List.set_cons_zero, List.set_cons_succ]))
        obtain ⟨hR9, hf9, y0, y1, y2, y3, yf⟩ := set4 hg (.int .i64 (VS (t.extract k (k + 1))).k) (.int .i64 (VS (t.extract k (k + 1))).n) (.string (VS (t.extract k (k + 1))).s) (.slice aP (VS (t.extract k (k + 1))).l.length cP)
        have hS9 := hS61.trans hf9 (U := fun _ => False) (fun _ _ h => h) (fun q hq e => by have := hG9; omega)
        (refine wpF_run (i := 9) (by kernel_rfl) rfl (by kernel_rfl) (fun K hK => ?_); go_simp; refine hK _ _ (hS9) ?_; clear hK K; (try simp only [Act.put, List.setIfInBounds_toArray, List.set_cons_zero, List.set_cons_succ]))
        (refine wpF_run (i := 10) (by kernel_rfl) rfl (by kernel_rfl) (fun K hK => ?_); go_simp; refine hK _ _ (hS9) ?_; clear hK K; (try simp only [Act.put, List.setIfInBounds_toArray, List.set_cons_zero, List.set_cons_succ]))
        refine wpF_end (by kernel_rfl) ?_
        refine hK1 _ _ (Met.intro (hJ _ _ ?_))
        repeat apply Exists.intro
        refine ⟨?_, rfl⟩
        exact ⟨_, _, _, rfl, rfl, hid hS9, hid hR9⟩
    · go_simp
      have hSa := hSd.alloc (.cells #[.int .i64 0, .int .i64 0, .string ⟨#[]⟩, .slice none 0 0] 24)
      have hg : (W6.drew.alloc (.cells #[.int .i64 0, .int .i64 0, .string ⟨#[]⟩, .slice none 0 0] 24)).heap[W6.heap.size]? = some (.cells #[.int .i64 0, .int .i64 0, .string ⟨#[]⟩, .slice none 0 0] 24) := heap_alloc_new W6.drew (.cells #[.int .i64 0, .int .i64 0, .string ⟨#[]⟩, .slice none 0 0] 24)
      have hG9 : W6.heap.size ≤ _ := hSd.size
      refine hK _ _ hSa ?_
      clear hK K
      try simp only [Act.put, List.setIfInBounds_toArray, List.set_cons_zero, List.set_cons_succ]
      refine wpF_run (i := 3) (by kernel_rfl) rfl (by kernel_rfl) (fun K hK => ?_); go_simp
      refine (vI_any ((k : Int) + 1) _).mono ?_
      rintro e w60 ⟨rfl, hf60⟩
      have hS60 := hSa.trans' hf60
      have hgl60 := heap_lt hg
      have hg := hf60.heap hg not_false
      refine hK _ _ hS60 ?_
      clear hK K
      try simp only [Act.put, List.setIfInBounds_toArray, List.set_cons_zero, List.set_cons_succ]
      refine wpF_run (i := 4) (by kernel_rfl) rfl (by kernel_rfl) (fun K hK => ?_); go_simp
      refine (HIX.out _).mono ?_
      rintro e w61 ⟨uP, rfl, hf61, hvP⟩
      obtain ⟨vP, rfl, aP, cP, usP, rfl, -⟩ := hvP.open
      have hS61 := hS60.trans' hf61
      have hgl61 := heap_lt hg
      have hg := hf61.heap hg not_false
      refine hK _ _ hS61 ?_
      clear hK K
      try simp only [Act.put, List.setIfInBounds_toArray, List.set_cons_zero, List.set_cons_succ]
      (refine wpF_take (i := 5) ?_ (by kernel_rfl) (fun _ _ d _ _ h => by cases d <;> exact h) (by kernel_rfl) rfl (by kernel_rfl) (hS61) ?_ ?_; rotate_left; (· intro w' hS; go_simp; try with_reducible rfl); (try simp only [Act.put, List.setIfInBounds_toArray, List.set_cons_zero, List.set_cons_succ]))
      (refine wpF_take (i := 6) ?_ (by kernel_rfl) (fun _ _ d _ _ h => by cases d <;> exact h) (by kernel_rfl) rfl (by kernel_rfl) (hS61) ?_ ?_; rotate_left; (· intro w' hS; go_simp; try with_reducible rfl); (try simp only [Act.put, List.setIfInBounds_toArray, List.set_cons_zero, List.set_cons_succ]))
      (refine wpF_take (i := 7) ?_ (by kernel_rfl) (fun _ _ d _ _ h => by cases d <;> exact h) (by kernel_rfl) rfl (by kernel_rfl) (hS61) ?_ ?_; rotate_left; (· intro w' hS; go_simp; try with_reducible rfl); (try simp only [Act.put, List.setIfInBounds_toArray, List.set_cons_zero, List.set_cons_succ]))
      obtain ⟨hR9, hf9, y0, y1, y2, y3, yf⟩ := set4 hg (.int .i64 (VS (t.extract k (k + 1))).k) (.int .i64 (VS (t.extract k (k + 1))).n) (.string (VS (t.extract k (k + 1))).s) (.slice aP (VS (t.extract k (k + 1))).l.length cP)
      have hS9 := hS61.trans hf9 (U := fun _ => False) (fun _ _ h => h) (fun q hq e => by have := hG9; omega)
      (refine wpF_run (i := 9) (by kernel_rfl) rfl (by kernel_rfl) (fun K hK => ?_); go_simp; refine hK _ _ (hS9) ?_; clear hK K; (try simp only [Act.put, List.setIfInBounds_toArray, List.set_cons_zero, List.set_cons_succ]))
      (refine wpF_run (i := 10) (by kernel_rfl) rfl (by kernel_rfl) (fun K hK => ?_); go_simp; refine hK _ _ (hS9) ?_; clear hK K; (try simp only [Act.put, List.setIfInBounds_toArray, List.set_cons_zero, List.set_cons_succ]))
      refine wpF_end (by kernel_rfl) ?_
      refine hK1 _ _ (Met.intro (hJ _ _ ?_))
      repeat apply Exists.intro
      refine ⟨?_, rfl⟩
      exact ⟨_, _, _, rfl, rfl, hid hS9, hid hR9⟩
  case rest =>
  obtain ⟨g4, aR, cR, rfl, rfl, HS7, HG7⟩ := hcut
  obtain ⟨W7, rfl⟩ : ∃ W, W = wc := ⟨wc, rfl⟩
  have HT7 := hid (HS7.out.heap HT6.out not_false)
  have HF7 := hid (HF6.out.trans' HS7.out)
  go_upto_region 17 with fail
  go_cut [17, 18] from 125 to 133 (fun p c wx => ∃ g5 aP cP, p = .pointer (some ⟨g5, 0, none⟩) ∧ c = .int .i64 0 ∧ Hid (Fr (fun _ => False) W7 wx) ∧ Hid (wx.heap[g5]? = some (.cells #[.int .i64 (VS (t.extract 0 k ++ ⟨#[126]⟩ ++ t.extract (k + 1) t.size)).k, .int .i64 (VS (t.extract 0 k ++ ⟨#[126]⟩ ++ t.extract (k + 1) t.size)).n, .string (VS (t.extract 0 k ++ ⟨#[126]⟩ ++ t.extract (k + 1) t.size)).s, .slice aP (VS (t.extract 0 k ++ ⟨#[126]⟩ ++ t.extract (k + 1) t.size)).l.length cP] 24)))
  case first =>
    rename_i J K1 hJ hK1
    refine wpF_begin [0, 1, 2, 6, 7, 8] (fun w' => Fr (fun _ => False) W7 w') (by kernel_rfl) ?_
    have hSd : Fr (fun _ => False) W7 W7.drew := (Fr.refl _ _).drew
    (refine wpF_take (i := 0) ?_ (by kernel_rfl) (fun _ _ d _ _ h => by cases d <;> exact h) (by kernel_rfl) rfl (by kernel_rfl) (hSd) ?_ ?_; rotate_left; (· intro w' hS; have hh := Fr.heap hS HT7.out not_false; have z0 : World.cell? w' ⟨g, 0, none⟩ = some (.int .i64 2) := (cell_of_row _ _ 0 _ _ _ hh).trans rfl; have z1 : World.cell? w' ⟨g, 1, none⟩ = some (.int .i64 0) := (cell_of_row _ _ 1 _ _ _ hh).trans rfl; have z2 : World.cell? w' ⟨g, 2, none⟩ = some (.string t) := (cell_of_row _ _ 2 _ _ _ hh).trans rfl; have z3 : World.cell? w' ⟨g, 3, none⟩ = some (.slice none 0 0) := (cell_of_row _ _ 3 _ _ _ hh).trans rfl; go_simp; try with_reducible rfl); (try simp only [Act.put, List.setIfInBounds_toArray, List.set_cons_zero, List.set_cons_succ]))
    (refine wpF_take (i := 1) ?_ (by kernel_rfl) (fun _ _ d _ _ h => by cases d <;> exact h) (by kernel_rfl) rfl (by kernel_rfl) (hSd) ?_ ?_; rotate_left; (· intro w' hS; go_simp; try with_reducible rfl); (try simp only [Act.put, List.setIfInBounds_toArray, List.set_cons_zero, List.set_cons_succ]))
    (refine wpF_take (i := 2) ?_ (by kernel_rfl) (fun _ _ d _ _ h => by cases d <;> exact h) (by kernel_rfl) rfl (by kernel_rfl) (hSd) ?_ ?_; rotate_left; (· intro w' hS; go_simp; try with_reducible rfl); (try simp only [Act.put, List.setIfInBounds_toArray, List.set_cons_zero, List.set_cons_succ]))
    refine wpF_run2 (i := 3) (j := 9) (by kernel_rfl) rfl rfl (by kernel_rfl) (by kernel_rfl) (fun K hK => ?_) (fun K hK => ?_)
    · go_simp
      refine (vI_any ((k : Int) + 1) _).mono ?_
      rintro e w60 ⟨rfl, hf60⟩
      have hS60 := hSd.trans' hf60
      refine hK _ _ hS60 ?_
      clear hK K
      try simp only [Act.put, List.setIfInBounds_toArray, List.set_cons_zero, List.set_cons_succ]
      refine wpF_run2 (i := 4) (j := 9) (by kernel_rfl) rfl rfl (by kernel_rfl) (by kernel_rfl) (fun K hK => ?_) (fun K hK => ?_)
      · go_simp
        refine (vS_any ⟨#[126]⟩ _).mono ?_
        rintro e w61 ⟨rfl, hf61⟩
        have hS61 := hS60.trans' hf61
        refine hK _ _ hS61 ?_
        clear hK K
        try simp only [Act.put, List.setIfInBounds_toArray, List.set_cons_zero, List.set_cons_succ]
        refine wpF_run2 (i := 5) (j := 9) (by kernel_rfl) rfl rfl (by kernel_rfl) (by kernel_rfl) (fun K hK => ?_) (fun K hK => ?_)
        · go_simp
          refine (HPU.out _).mono ?_
          rintro e w62 ⟨uP, rfl, hf62, hvP⟩
          obtain ⟨vP, rfl, aP, cP, usP, rfl, -⟩ := hvP.open
          have hS62 := hS61.trans' hf62
          refine hK _ _ hS62 ?_
          clear hK K
          try simp only [Act.put, List.setIfInBounds_toArray, List.set_cons_zero, List.set_cons_succ]
          (refine wpF_take (i := 6) ?_ (by kernel_rfl) (fun _ _ d _ _ h => by cases d <;> exact h) (by kernel_rfl) rfl (by kernel_rfl) (hS62) ?_ ?_; rotate_left; (· intro w' hS; go_simp; try with_reducible rfl); (try simp only [Act.put, List.setIfInBounds_toArray, List.set_cons_zero, List.set_cons_succ]))
          (refine wpF_take (i := 7) ?_ (by kernel_rfl) (fun _ _ d _ _ h => by cases d <;> exact h) (by kernel_rfl) rfl (by kernel_rfl) (hS62) ?_ ?_; rotate_left; (· intro w' hS; go_simp; try with_reducible rfl); (try simp only [Act.put, List.setIfInBounds_toArray, List.set_cons_zero, List.set_cons_succ]))
          (refine wpF_take (i := 8) ?_ (by kernel_rfl) (fun _ _ d _ _ h => by cases d <;> exact h) (by kernel_rfl) rfl (by kernel_rfl) (hS62) ?_ ?_; rotate_left; (· intro w' hS; go_simp; try with_reducible rfl); (try simp only [Act.put, List.setIfInBounds_toArray, List.set_cons_zero, List.set_cons_succ]))
          (refine wpF_run (i := 9) (by kernel_rfl) rfl (by kernel_rfl) (fun K hK => ?_); go_simp; refine hK _ _ (hS62.alloc _) ?_; clear hK K; (try simp only [Act.put, List.setIfInBounds_toArray, List.set_cons_zero, List.set_cons_succ]))
          have hS9 := hS62.alloc (.cells #[.int .i64 (VS (t.extract 0 k ++ ⟨#[126]⟩ ++ t.extract (k + 1) t.size)).k, .int .i64 (VS (t.extract 0 k ++ ⟨#[126]⟩ ++ t.extract (k + 1) t.size)).n, .string (VS (t.extract 0 k ++ ⟨#[126]⟩ ++ t.extract (k + 1) t.size)).s, .slice aP (VS (t.extract 0 k ++ ⟨#[126]⟩ ++ t.extract (k + 1) t.size)).l.length cP] 24)
          have hR9 := heap_alloc_new w62 (.cells #[.int .i64 (VS (t.extract 0 k ++ ⟨#[126]⟩ ++ t.extract (k + 1) t.size)).k, .int .i64 (VS (t.extract 0 k ++ ⟨#[126]⟩ ++ t.extract (k + 1) t.size)).n, .string (VS (t.extract 0 k ++ ⟨#[126]⟩ ++ t.extract (k + 1) t.size)).s, .slice aP (VS (t.extract 0 k ++ ⟨#[126]⟩ ++ t.extract (k + 1) t.size)).l.length cP] 24)
          have hG9 := hS62.size
          (refine wpF_run (i := 10) (by kernel_rfl) rfl (by kernel_rfl) (fun K hK => ?_); go_simp; refine hK _ _ (hS9) ?_; clear hK K; (try simp only [Act.put, List.setIfInBounds_toArray, List.set_cons_zero, List.set_cons_succ]))
          (refine wpF_run (i := 11) (by kernel_rfl) rfl (by kernel_rfl) (fun K hK => ?_); go_simp; refine hK _ _ (hS9) ?_; clear hK K; (try simp only [Act.put, List.setIfInBounds_toArray, List.set_cons_zero, List.set_cons_succ]))
          refine wpF_end (by kernel_rfl) ?_
          refine hK1 _ _ (Met.intro (hJ _ _ ?_))
          repeat apply Exists.intro
          refine ⟨?_, rfl⟩
          exact ⟨_, _, _, rfl, rfl, hid hS9, hid hR9⟩
        · go_simp
          have hSa := hS61.alloc (.cells #[.int .i64 0, .int .i64 0, .string ⟨#[]⟩, .slice none 0 0] 24)
          have hg : (w61.alloc (.cells #[.int .i64 0, .int .i64 0, .string ⟨#[]⟩, .slice none 0 0] 24)).heap[w61.heap.size]? = some (.cells #[.int .i64 0, .int .i64 0, .string ⟨#[]⟩, .slice none 0 0] 24) := heap_alloc_new w61 (.cells #[.int .i64 0, .int .i64 0, .string ⟨#[]⟩, .slice none 0 0] 24)
          have hG9 : W7.heap.size ≤ _ := hS61.size
          refine hK _ _ hSa ?_
          clear hK K
          try simp only [Act.put, List.setIfInBounds_toArray, List.set_cons_zero, List.set_cons_succ]
          refine wpF_run (i := 5) (by kernel_rfl) rfl (by kernel_rfl) (fun K hK => ?_); go_simp
          refine (HPU.out _).mono ?_
          rintro e w62 ⟨uP, rfl, hf62, hvP⟩
          obtain ⟨vP, rfl, aP, cP, usP, rfl, -⟩ := hvP.open
          have hS62 := hSa.trans' hf62
          have hgl62 := heap_lt hg
          have hg := hf62.heap hg not_false
          refine hK _ _ hS62 ?_
          clear hK K
          try simp only [Act.put, List.setIfInBounds_toArray, List.set_cons_zero, List.set_cons_succ]
          (refine wpF_take (i := 6) ?_ (by kernel_rfl) (fun _ _ d _ _ h => by cases d <;> exact h) (by kernel_rfl) rfl (by kernel_rfl) (hS62) ?_ ?_; rotate_left; (· intro w' hS; go_simp; try with_reducible rfl); (try simp only [Act.put, List.setIfInBounds_toArray, List.set_cons_zero, List.set_cons_succ]))
          (refine wpF_take (i := 7) ?_ (by kernel_rfl) (fun _ _ d _ _ h => by cases d <;> exact h) (by kernel_rfl) rfl (by kernel_rfl) (hS62) ?_ ?_; rotate_left; (· intro w' hS; go_simp; try with_reducible rfl); (try simp only [Act.put, List.setIfInBounds_toArray, List.set_cons_zero, List.set_cons_succ]))
          (refine wpF_take (i := 8) ?_ (by kernel_rfl) (fun _ _ d _ _ h => by cases d <;> exact h) (by kernel_rfl) rfl (by kernel_rfl) (hS62) ?_ ?_; rotate_left; (· intro w' hS; go_simp; try with_reducible rfl); (try simp only [Act.put, List.setIfInBounds_toArray, List.set_cons_zero, List.set_cons_succ]))
          obtain ⟨hR9, hf9, y0, y1, y2, y3, yf⟩ := set4 hg (.int .i64 (VS (t.extract 0 k ++ ⟨#[126]⟩ ++ t.extract (k + 1) t.size)).k) (.int .i64 (VS (t.extract 0 k ++ ⟨#[126]⟩ ++ t.extract (k + 1) t.size)).n) (.string (VS (t.extract 0 k ++ ⟨#[126]⟩ ++ t.extract (k + 1) t.size)).s) (.slice aP (VS (t.extract 0 k ++ ⟨#[126]⟩ ++ t.extract (k + 1) t.size)).l.length cP)
          have hS9 := hS62.trans hf9 (U := fun _ => False) (fun _ _ h => h) (fun q hq e => by have := hG9; omega)
          (refine wpF_run (i := 10) (by kernel_rfl) rfl (by kernel_rfl) (fun K hK => ?_); go_simp; refine hK _ _ (hS9) ?_; clear hK K; (try simp only [Act.put, List.setIfInBounds_toArray, List.set_cons_zero, List.set_cons_succ]))
          (refine wpF_run (i := 11) (by kernel_rfl) rfl (by kernel_rfl) (fun K hK => ?_); go_simp; refine hK _ _ (hS9) ?_; clear hK K; (try simp only [Act.put, List.setIfInBounds_toArray, List.set_cons_zero, List.set_cons_succ]))
          refine wpF_end (by kernel_rfl) ?_
          refine hK1 _ _ (Met.intro (hJ _ _ ?_))
          repeat apply Exists.intro
          refine ⟨?_, rfl⟩
          exact ⟨_, _, _, rfl, rfl, hid hS9, hid hR9⟩
      · go_simp
        have hSa := hS60.alloc (.cells #[.int .i64 0, .int .i64 0, .string ⟨#[]⟩, .slice none 0 0] 24)
        have hg : (w60.alloc (.cells #[.int .i64 0, .int .i64 0, .string ⟨#[]⟩, .slice none 0 0] 24)).heap[w60.heap.size]? = some (.cells #[.int .i64 0, .int .i64 0, .string ⟨#[]⟩, .slice none 0 0] 24) := heap_alloc_new w60 (.cells #[.int .i64 0, .int .i64 0, .string ⟨#[]⟩, .slice none 0 0] 24)
        have hG9 : W7.heap.size ≤ _ := hS60.size
        refine hK _ _ hSa ?_
        clear hK K
        try simp only [Act.put, List.setIfInBounds_toArray, List.set_cons_zero, List.set_cons_succ]
        refine wpF_run (i := 4) (by kernel_rfl) rfl (by kernel_rfl) (fun K hK => ?_); go_simp
        refine (vS_any ⟨#[126]⟩ _).mono ?_
        rintro e w61 ⟨rfl, hf61⟩
        have hS61 := hSa.trans' hf61
        have hgl61 := heap_lt hg
        have hg := hf61.heap hg not_false
        refine hK _ _ hS61 ?_
        clear hK K
        try simp only [Act.put, List.setIfInBounds_toArray, List.set_cons_zero, List.set_cons_succ]
        refine wpF_run (i := 5) (by kernel_rfl) rfl (by kernel_rfl) (fun K hK => ?_); go_simp
        refine (HPU.out _).mono ?_
        rintro e w62 ⟨uP, rfl, hf62, hvP⟩
        obtain ⟨vP, rfl, aP, cP, usP, rfl, -⟩ := hvP.open
        have hS62 := hS61.trans' hf62
        have hgl62 := heap_lt hg
        have hg := hf62.heap hg not_false
        refine hK _ _ hS62 ?_
        clear hK K
        try simp only [Act.put, List.setIfInBounds_toArray, List.set_cons_zero, List.set_cons_succ]
        (refine wpF_take (i := 6) ?_ (by kernel_rfl) (fun _ _ d _ _ h => by cases d <;> exact h) (by kernel_rfl) rfl (by kernel_rfl) (hS62) ?_ ?_; rotate_left; (· intro w' hS; go_simp; try with_reducible rfl); (try simp only [Act.put, List.setIfInBounds_toArray, List.set_cons_zero, List.set_cons_succ]))
        (refine wpF_take (i := 7) ?_ (by kernel_rfl) (fun _ _ d _ _ h => by cases d <;> exact h) (by kernel_rfl) rfl (by kernel_rfl) (hS62) ?_ ?_; rotate_left; (· intro w' hS; go_simp; try with_reducible rfl); (try simp only [Act.put, List.setIfInBounds_toArray, List.set_cons_zero, List.set_cons_succ]))
        (refine wpF_take (i := 8) ?_ (by kernel_rfl) (fun _ _ d _ _ h => by cases d <;> exact h) (by kernel_rfl) rfl (by kernel_rfl) (hS62) ?_ ?_; rotate_left; (· intro w' hS; go_simp; try with_reducible rfl); (try simp only [Act.put, List.setIfInBounds_toArray, List.set_cons_zero, List.set_cons_succ]))
        obtain ⟨hR9, hf9, y0, y1, y2, y3, yf⟩ := set4 hg (.int .i64 (VS (t.extract 0 k ++ ⟨#[126]⟩ ++ t.extract (k + 1) t.size)).k) (.int .i64 (VS (t.extract 0 k ++ ⟨#[126]⟩ ++ t.extract (k + 1) t.size)).n) (.string (VS (t.extract 0 k ++ ⟨#[126]⟩ ++ t.extract (k + 1) t.size)).s) (.slice aP (VS (t.extract 0 k ++ ⟨#[126]⟩ ++ t.extract (k + 1) t.size)).l.length cP)
        have hS9 := hS62.trans hf9 (U := fun _ => False) (fun _ _ h => h) (fun q hq e => by have := hG9; omega)
        (refine wpF_run (i := 10) (by kernel_rfl) rfl (by kernel_rfl) (fun K hK => ?_); go_simp; refine hK _ _ (hS9) ?_; clear hK K; (try simp only [Act.put, List.setIfInBounds_toArray, List.set_cons_zero, List.set_cons_succ]))
        (refine wpF_run (i := 11) (by kernel_rfl) rfl (by kernel_rfl) (fun K hK => ?_); go_simp; refine hK _ _ (hS9) ?_; clear hK K; (try simp only [Act.put, List.setIfInBounds_toArray, List.set_cons_zero, List.set_cons_succ]))
        refine wpF_end (by kernel_rfl) ?_
        refine hK1 _ _ (Met.intro (hJ _ _ ?_))
        repeat apply Exists.intro
        refine ⟨?_, rfl⟩
        exact ⟨_, _, _, rfl, rfl, hid hS9, hid hR9⟩
    · go_simp
      have hSa := hSd.alloc (.cells #[.int .i64 0, .int .i64 0, .string ⟨#[]⟩, .slice none 0 0] 24)
      have hg : (W7.drew.alloc (.cells #[.int .i64 0, .int .i64 0, .string ⟨#[]⟩, .slice none 0 0] 24)).heap[W7.heap.size]? = some (.cells #[.int .i64 0, .int .i64 0, .string ⟨#[]⟩, .slice none 0 0] 24) := heap_alloc_new W7.drew (.cells #[.int .i64 0, .int .i64 0, .string ⟨#[]⟩, .slice none 0 0] 24)
      have hG9 : W7.heap.size ≤ _ := hSd.size
      refine hK _ _ hSa ?_
      clear hK K
      try simp only [Act.put, List.setIfInBounds_toArray, List.set_cons_zero, List.set_cons_succ]
      refine wpF_run (i := 3) (by kernel_rfl) rfl (by kernel_rfl) (fun K hK => ?_); go_simp
      refine (vI_any ((k : Int) + 1) _).mono ?_
      rintro e w60 ⟨rfl, hf60⟩
      have hS60 := hSa.trans' hf60
      have hgl60 := heap_lt hg
      have hg := hf60.heap hg not_false
      refine hK _ _ hS60 ?_
      clear hK K
      try simp only [Act.put, List.setIfInBounds_toArray, List.set_cons_zero, List.set_cons_succ]
      refine wpF_run (i := 4) (by kernel_rfl) rfl (by kernel_rfl) (fun K hK => ?_); go_simp
      refine (vS_any ⟨#[126]⟩ _).mono ?_
      rintro e w61 ⟨rfl, hf61⟩
      have hS61 := hS60.trans' hf61
      have hgl61 := heap_lt hg
      have hg := hf61.heap hg not_false
      refine hK _ _ hS61 ?_
      clear hK K
      try simp only [Act.put, List.setIfInBounds_toArray, List.set_cons_zero, List.set_cons_succ]
      refine wpF_run (i := 5) (by kernel_rfl) rfl (by kernel_rfl) (fun K hK => ?_); go_simp
      refine (HPU.out _).mono ?_
      rintro e w62 ⟨uP, rfl, hf62, hvP⟩
      obtain ⟨vP, rfl, aP, cP, usP, rfl, -⟩ := hvP.open
      have hS62 := hS61.trans' hf62
      have hgl62 := heap_lt hg
      have hg := hf62.heap hg not_false
      refine hK _ _ hS62 ?_
      clear hK K
      try simp only [Act.put, List.setIfInBounds_toArray, List.set_cons_zero, List.set_cons_succ]
      (refine wpF_take (i := 6) ?_ (by kernel_rfl) (fun _ _ d _ _ h => by cases d <;> exact h) (by kernel_rfl) rfl (by kernel_rfl) (hS62) ?_ ?_; rotate_left; (· intro w' hS; go_simp; try with_reducible rfl); (try simp only [Act.put, List.setIfInBounds_toArray, List.set_cons_zero, List.set_cons_succ]))
      (refine wpF_take (i := 7) ?_ (by kernel_rfl) (fun _ _ d _ _ h => by cases d <;> exact h) (by kernel_rfl) rfl (by kernel_rfl) (hS62) ?_ ?_; rotate_left; (· intro w' hS; go_simp; try with_reducible rfl); (try simp only [Act.put, List.setIfInBounds_toArray, List.set_cons_zero, List.set_cons_succ]))
      (refine wpF_take (i := 8) ?_ (by kernel_rfl) (fun _ _ d _ _ h => by cases d <;> exact h) (by kernel_rfl) rfl (by kernel_rfl) (hS62) ?_ ?_; rotate_left; (· intro w' hS; go_simp; try with_reducible rfl); (try simp only [Act.put, List.setIfInBounds_toArray, List.set_cons_zero, List.set_cons_succ]))
      obtain ⟨hR9, hf9, y0, y1, y2, y3, yf⟩ := set4 hg (.int .i64 (VS (t.extract 0 k ++ ⟨#[126]⟩ ++ t.extract (k + 1) t.size)).k) (.int .i64 (VS (t.extract 0 k ++ ⟨#[126]⟩ ++ t.extract (k + 1) t.size)).n) (.string (VS (t.extract 0 k ++ ⟨#[126]⟩ ++ t.extract (k + 1) t.size)).s) (.slice aP (VS (t.extract 0 k ++ ⟨#[126]⟩ ++ t.extract (k + 1) t.size)).l.length cP)
      have hS9 := hS62.trans hf9 (U := fun _ => False) (fun _ _ h => h) (fun q hq e => by have := hG9; omega)
      (refine wpF_run (i := 10) (by kernel_rfl) rfl (by kernel_rfl) (fun K hK => ?_); go_simp; refine hK _ _ (hS9) ?_; clear hK K; (try simp only [Act.put, List.setIfInBounds_toArray, List.set_cons_zero, List.set_cons_succ]))
      (refine wpF_run (i := 11) (by kernel_rfl) rfl (by kernel_rfl) (fun K hK => ?_); go_simp; refine hK _ _ (hS9) ?_; clear hK K; (try simp only [Act.put, List.setIfInBounds_toArray, List.set_cons_zero, List.set_cons_succ]))
      refine wpF_end (by kernel_rfl) ?_
      refine hK1 _ _ (Met.intro (hJ _ _ ?_))
      repeat apply Exists.intro
      refine ⟨?_, rfl⟩
      exact ⟨_, _, _, rfl, rfl, hid hS9, hid hR9⟩
  case rest =>
  obtain ⟨g5, aS, cS, rfl, rfl, HS8, HG8⟩ := hcut
  obtain ⟨W8, rfl⟩ : ∃ W, W = wc := ⟨wc, rfl⟩
  have hr8 := HS8.out.heap HT7.out not_false
  have hr7 := HS8.out.heap HG7.out not_false
  have hr9 := HG8.out
  have x2 : W8.drew.cell? ⟨g4, 2, none⟩ = some (.string (t.extract k (k + 1))) := (cell_of_row W8 _ 2 _ _ _ hr7).trans rfl
  have y2 : W8.drew.cell? ⟨g5, 2, none⟩ = some (.string (t.extract 0 k ++ ⟨#[126]⟩ ++ t.extract (k + 1) t.size)) := (cell_of_row W8 _ 2 _ _ _ hr9).trans rfl
  have t2 : W8.drew.cell? ⟨g, 2, none⟩ = some (.string t) := (cell_of_row W8 _ 2 _ _ _ hr8).trans rfl
  have HF8 := hid (HF7.out.trans' HS8.out)
  have hn1 : ¬ (k : Int) + 1 < 0 := by omega
  have hn2 : (k : Int) + 1 ≤ (t.size : Int) := by omega
  have hn3 : ((k : Int) + 1).toNat = k + 1 := by omega
  have hn4 : (k : Int) ≤ (t.size : Int) := by omega
  have hn5 : (0 : Int) ≤ (k : Int) + 1 := by omega
  have hn6 : (k : Int) ≤ (k : Int) + 1 := by omega
  have hn7 : k ≤ t.size := by omega
  have hn8 : k + 1 ≤ t.size := by omega
  have had1 : ¬ 9223372036854775807 < k + 1 := by omega
  have had2 : ¬ 9223372036854775807 < t.size := by omega
  clear hr7 hr8 hr9 HS8 HG8 HIX HPU HT0 HT5 HT6 HT7 HG7 HS5 HS6 HS7
  go_upto_region 18 with fail
  refine wpF_begin [0, 1, 2, 3, 4, 5, 6, 7, 8, 9, 10, 11, 12, 13, 14, 15, 16, 17, 18, 19, 20, 21, 22, 23, 24, 25, 26, 27, 28, 29, 30, 31, 32, 33] (fun w' => w' = W8.drew) (by kernel_rfl) ?_
  (refine wpF_take (i := 0) ?_ (by kernel_rfl) (fun _ _ d _ _ h => by cases d <;> exact h) (by kernel_rfl) rfl (by kernel_rfl) (rfl) ?_ ?_; rotate_left; (· intro w' hS; subst hS; go_simp; try with_reducible rfl); (try simp only [Act.put, List.setIfInBounds_toArray, List.set_cons_zero, List.set_cons_succ]))
  (refine wpF_take (i := 1) ?_ (by kernel_rfl) (fun _ _ d _ _ h => by cases d <;> exact h) (by kernel_rfl) rfl (by kernel_rfl) (rfl) ?_ ?_; rotate_left; (· intro w' hS; subst hS; go_simp; try with_reducible rfl); (try simp only [Act.put, List.setIfInBounds_toArray, List.set_cons_zero, List.set_cons_succ]))
  (refine wpF_take (i := 2) ?_ (by kernel_rfl) (fun _ _ d _ _ h => by cases d <;> exact h) (by kernel_rfl) rfl (by kernel_rfl) (rfl) ?_ ?_; rotate_left; (· intro w' hS; subst hS; go_simp; try with_reducible rfl); (try simp only [Act.put, List.setIfInBounds_toArray, List.set_cons_zero, List.set_cons_succ]))
  (refine wpF_take (i := 3) ?_ (by kernel_rfl) (fun _ _ d _ _ h => by cases d <;> exact h) (by kernel_rfl) rfl (by kernel_rfl) (rfl) ?_ ?_; rotate_left; (· intro w' hS; subst hS; go_simp; try with_reducible rfl); (try simp only [Act.put, List.setIfInBounds_toArray, List.set_cons_zero, List.set_cons_succ]))
  (refine wpF_take (i := 4) ?_ (by kernel_rfl) (fun _ _ d _ _ h => by cases d <;> exact h) (by kernel_rfl) rfl (by kernel_rfl) (rfl) ?_ ?_; rotate_left; (· intro w' hS; subst hS; go_simp; try with_reducible rfl); (try simp only [Act.put, List.setIfInBounds_toArray, List.set_cons_zero, List.set_cons_succ]))
  (refine wpF_take (i := 5) ?_ (by kernel_rfl) (fun _ _ d _ _ h => by cases d <;> exact h) (by kernel_rfl) rfl (by kernel_rfl) (rfl) ?_ ?_; rotate_left; (· intro w' hS; subst hS; go_simp; try with_reducible rfl); (try simp only [Act.put, List.setIfInBounds_toArray, List.set_cons_zero, List.set_cons_succ]))
  (refine wpF_take (i := 6) ?_ (by kernel_rfl) (fun _ _ d _ _ h => by cases d <;> exact h) (by kernel_rfl) rfl (by kernel_rfl) (rfl) ?_ ?_; rotate_left; (· intro w' hS; subst hS; go_simp; try with_reducible rfl); (try simp only [Act.put, List.setIfInBounds_toArray, List.set_cons_zero, List.set_cons_succ]))
  (refine wpF_take (i := 7) ?_ (by kernel_rfl) (fun _ _ d _ _ h => by cases d <;> exact h) (by kernel_rfl) rfl (by kernel_rfl) (rfl) ?_ ?_; rotate_left; (· intro w' hS; subst hS; go_simp; try with_reducible rfl); (try simp only [Act.put, List.setIfInBounds_toArray, List.set_cons_zero, List.set_cons_succ]))
  (refine wpF_take (i := 8) ?_ (by kernel_rfl) (fun _ _ d _ _ h => by cases d <;> exact h) (by kernel_rfl) rfl (by kernel_rfl) (rfl) ?_ ?_; rotate_left; (· intro w' hS; subst hS; go_simp; try with_reducible rfl); (try simp only [Act.put, List.setIfInBounds_toArray, List.set_cons_zero, List.set_cons_succ]))
  (refine wpF_take (i := 9) ?_ (by kernel_rfl) (fun _ _ d _ _ h => by cases d <;> exact h) (by kernel_rfl) rfl (by kernel_rfl) (rfl) ?_ ?_; rotate_left; (· intro w' hS; subst hS; go_simp; try with_reducible rfl); (try simp only [Act.put, List.setIfInBounds_toArray, List.set_cons_zero, List.set_cons_succ]))
  (refine wpF_take (i := 10) ?_ (by kernel_rfl) (fun _ _ d _ _ h => by cases d <;> exact h) (by kernel_rfl) rfl (by kernel_rfl) (rfl) ?_ ?_; rotate_left; (· intro w' hS; subst hS; go_simp; try with_reducible rfl); (try simp only [Act.put, List.setIfInBounds_toArray, List.set_cons_zero, List.set_cons_succ]))
  (refine wpF_take (i := 11) ?_ (by kernel_rfl) (fun _ _ d _ _ h => by cases d <;> exact h) (by kernel_rfl) rfl (by kernel_rfl) (rfl) ?_ ?_; rotate_left; (· intro w' hS; subst hS; go_simp; try with_reducible rfl); (try simp only [Act.put, List.setIfInBounds_toArray, List.set_cons_zero, List.set_cons_succ]))
  (refine wpF_take (i := 12) ?_ (by kernel_rfl) (fun _ _ d _ _ h => by cases d <;> exact h) (by kernel_rfl) rfl (by kernel_rfl) (rfl) ?_ ?_; rotate_left; (· intro w' hS; subst hS; go_simp; try with_reducible rfl); (try simp only [Act.put, List.setIfInBounds_toArray, List.set_cons_zero, List.set_cons_succ]))
  (refine wpF_take (i := 13) ?_ (by kernel_rfl) (fun _ _ d _ _ h => by cases d <;> exact h) (by kernel_rfl) rfl (by kernel_rfl) (rfl) ?_ ?_; rotate_left; (· intro w' hS; subst hS; go_simp; try with_reducible rfl); (try simp only [Act.put, List.setIfInBounds_toArray, List.set_cons_zero, List.set_cons_succ]))
  (refine wpF_take (i := 14) ?_ (by kernel_rfl) (fun _ _ d _ _ h => by cases d <;> exact h) (by kernel_rfl) rfl (by kernel_rfl) (rfl) ?_ ?_; rotate_left; (· intro w' hS; subst hS; go_simp; try with_reducible rfl); (try simp only [Act.put, List.setIfInBounds_toArray, List.set_cons_zero, List.set_cons_succ]))
  (refine wpF_take (i := 15) ?_ (by kernel_rfl) (fun _ _ d _ _ h => by cases d <;> exact h) (by kernel_rfl) rfl (by kernel_rfl) (rfl) ?_ ?_; rotate_left; (· intro w' hS; subst hS; go_simp; try with_reducible rfl); (try simp only [Act.put, List.setIfInBounds_toArray, List.set_cons_zero, List.set_cons_succ]))
  (refine wpF_take (i := 16) ?_ (by kernel_rfl) (fun _ _ d _ _ h => by cases d <;> exact h) (by kernel_rfl) rfl (by kernel_rfl) (rfl) ?_ ?_; rotate_left; (· intro w' hS; subst hS; go_simp; try with_reducible rfl); (try simp only [Act.put, List.setIfInBounds_toArray, List.set_cons_zero, List.set_cons_succ]))
  (refine wpF_take (i := 17) ?_ (by kernel_rfl) (fun _ _ d _ _ h => by cases d <;> exact h) (by kernel_rfl) rfl (by kernel_rfl) (rfl) ?_ ?_; rotate_left; (· intro w' hS; subst hS; go_simp; try with_reducible rfl); (try simp only [Act.put, List.setIfInBounds_toArray, List.set_cons_zero, List.set_cons_succ]))
  (refine wpF_take (i := 18) ?_ (by kernel_rfl) (fun _ _ d _ _ h => by cases d <;> exact h) (by kernel_rfl) rfl (by kernel_rfl) (rfl) ?_ ?_; rotate_left; (· intro w' hS; subst hS; go_simp; try with_reducible rfl); (try simp only [Act.put, List.setIfInBounds_toArray, List.set_cons_zero, List.set_cons_succ]))
  (refine wpF_take (i := 19) ?_ (by kernel_rfl) (fun _ _ d _ _ h => by cases d <;> exact h) (by kernel_rfl) rfl (by kernel_rfl) (rfl) ?_ ?_; rotate_left; (· intro w' hS; subst hS; go_simp; try with_reducible rfl); (try simp only [Act.put, List.setIfInBounds_toArray, List.set_cons_zero, List.set_cons_succ]))
  (refine wpF_take (i := 20) ?_ (by kernel_rfl) (fun _ _ d _ _ h => by cases d <;> exact h) (by kernel_rfl) rfl (by kernel_rfl) (rfl) ?_ ?_; rotate_left; (· intro w' hS; subst hS; go_simp; try with_reducible rfl); (try simp only [Act.put, List.setIfInBounds_toArray, List.set_cons_zero, List.set_cons_succ]))
  (refine wpF_take (i := 21) ?_ (by kernel_rfl) (fun _ _ d _ _ h => by cases d <;> exact h) (by kernel_rfl) rfl (by kernel_rfl) (rfl) ?_ ?_; rotate_left; (· intro w' hS; subst hS; go_simp; try with_reducible rfl); (try simp only [Act.put, List.setIfInBounds_toArray, List.set_cons_zero, List.set_cons_succ]))
  (refine wpF_take (i := 22) ?_ (by kernel_rfl) (fun _ _ d _ _ h => by cases d <;> exact h) (by kernel_rfl) rfl (by kernel_rfl) (rfl) ?_ ?_; rotate_left; (· intro w' hS; subst hS; go_simp; try with_reducible rfl); (try simp only [Act.put, List.setIfInBounds_toArray, List.set_cons_zero, List.set_cons_succ]))
  (refine wpF_take (i := 23) ?_ (by kernel_rfl) (fun _ _ d _ _ h => by cases d <;> exact h) (by kernel_rfl) rfl (by kernel_rfl) (rfl) ?_ ?_; rotate_left; (· intro w' hS; subst hS; go_simp; try with_reducible rfl); (try simp only [Act.put, List.setIfInBounds_toArray, List.set_cons_zero, List.set_cons_succ]))
  (refine wpF_take (i := 24) ?_ (by kernel_rfl) (fun _ _ d _ _ h => by cases d <;> exact h) (by kernel_rfl) rfl (by kernel_rfl) (rfl) ?_ ?_; rotate_left; (· intro w' hS; subst hS; go_simp; try with_reducible rfl); (try simp only [Act.put, List.setIfInBounds_toArray, List.set_cons_zero, List.set_cons_succ]))
  (refine wpF_take (i := 25) ?_ (by kernel_rfl) (fun _ _ d _ _ h => by cases d <;> exact h) (by kernel_rfl) rfl (by kernel_rfl) (rfl) ?_ ?_; rotate_left; (· intro w' hS; subst hS; go_simp; try with_reducible rfl); (try simp only [Act.put, List.setIfInBounds_toArray, List.set_cons_zero, List.set_cons_succ]))
  (refine wpF_take (i := 26) ?_ (by kernel_rfl) (fun _ _ d _ _ h => by cases d <;> exact h) (by kernel_rfl) rfl (by kernel_rfl) (rfl) ?_ ?_; rotate_left; (· intro w' hS; subst hS; go_simp; try with_reducible rfl); (try simp only [Act.put, List.setIfInBounds_toArray, List.set_cons_zero, List.set_cons_succ]))
  (refine wpF_take (i := 27) ?_ (by kernel_rfl) (fun _ _ d _ _ h => by cases d <;> exact h) (by kernel_rfl) rfl (by kernel_rfl) (rfl) ?_ ?_; rotate_left; (· intro w' hS; subst hS; go_simp; try with_reducible rfl); (try simp only [Act.put, List.setIfInBounds_toArray, List.set_cons_zero, List.set_cons_succ]))
  (refine wpF_take (i := 28) ?_ (by kernel_rfl) (fun _ _ d _ _ h => by cases d <;> exact h) (by kernel_rfl) rfl (by kernel_rfl) (rfl) ?_ ?_; rotate_left; (· intro w' hS; subst hS; go_simp; try with_reducible rfl); (try simp only [Act.put, List.setIfInBounds_toArray, List.set_cons_zero, List.set_cons_succ]))
  (refine wpF_take (i := 29) ?_ (by kernel_rfl) (fun _ _ d _ _ h => by cases d <;> exact h) (by kernel_rfl) rfl (by kernel_rfl) (rfl) ?_ ?_; rotate_left; (· intro w' hS; subst hS; go_simp; try with_reducible rfl); (try simp only [Act.put, List.setIfInBounds_toArray, List.set_cons_zero, List.set_cons_succ]))
  (refine wpF_take (i := 30) ?_ (by kernel_rfl) (fun _ _ d _ _ h => by cases d <;> exact h) (by kernel_rfl) rfl (by kernel_rfl) (rfl) ?_ ?_; rotate_left; (· intro w' hS; subst hS; go_simp; try with_reducible rfl); (try simp only [Act.put, List.setIfInBounds_toArray, List.set_cons_zero, List.set_cons_succ]))
  (refine wpF_take (i := 31) ?_ (by kernel_rfl) (fun _ _ d _ _ h => by cases d <;> exact h) (by kernel_rfl) rfl (by kernel_rfl) (rfl) ?_ ?_; rotate_left; (· intro w' hS; subst hS; go_simp; try with_reducible rfl); (try simp only [Act.put, List.setIfInBounds_toArray, List.set_cons_zero, List.set_cons_succ]))
  (refine wpF_take (i := 32) ?_ (by kernel_rfl) (fun _ _ d _ _ h => by cases d <;> exact h) (by kernel_rfl) rfl (by kernel_rfl) (rfl) ?_ ?_; rotate_left; (· intro w' hS; subst hS; go_simp; try with_reducible rfl); (try simp only [Act.put, List.setIfInBounds_toArray, List.set_cons_zero, List.set_cons_succ]))
  (refine wpF_take (i := 33) ?_ (by kernel_rfl) (fun _ _ d _ _ h => by cases d <;> exact h) (by kernel_rfl) rfl (by kernel_rfl) (rfl) ?_ ?_; rotate_left; (· intro w' hS; subst hS; go_simp; try with_reducible rfl); (try simp only [Act.put, List.setIfInBounds_toArray, List.set_cons_zero, List.set_cons_succ]))
  refine wpF_end (by kernel_rfl) ?_
  go_wp2_with fail
  go_ret
  exact ⟨rfl, HF8.out.drew⟩
end Go.Proofs.Ytjngddmjgcecnaa
