/- inglenookref6.Keys, named. -/
import Derived.Test.YteihmagldhmjgaaDoorRising
import Derived.Test.YteihmagldhmjgaaDoorDocB
import Derived.Test.YteihmagldhmjgaaDoorTreeE
namespace Go.Proofs.YteihmagldhmjgaaDoor
open Go.RowKit

theorem wpO_skip {P : Program} {l : List Oper} {tk : List Nat} {Q : Exit → Act → World → Prop} {S : World → Prop} {i : Nat} {r : List (Nat × Nat)} {a : Act} {w : World} {o : Oper} (hi : nth l i = some o) (hg : Region.wanted o (yielded l.toArray a.tmps) = false)
    (hS : S w) (h : wpO P tk l.toArray Q r S (a.put o.dst undef) w) : wpO P tk l.toArray Q ((i, 1) :: r) S a w := by
  unfold wpO wpOp
  simp only [(nth_spec l i).trans hi, hg]
  exact ⟨fun _ => hS, h⟩
theorem bytes0' : (⟨#[]⟩ : ByteArray).toList.isEmpty = true := by rw [ByteArray.toList_eq]; rfl
set_option maxRecDepth 100000 in
theorem dkeys_any (w : World) : Calls Tryd.prog 78 #[] w fun e w' => ∃ L v, e = .returned v ∧ Ss Tv w' v L ∧ (∀ s, s ∈ L ↔ s ∈ keysL) ∧ L.length ≤ 19 ∧ Fr (fun _ => False) w w' := by
  have hf := (Fr.refl (fun _ => False) w).alloc (.cells #[.string ⟨#[105, 102]⟩, .string ⟨#[101, 108, 115, 101, 105, 102]⟩, .string ⟨#[101, 108, 115, 101]⟩, .string ⟨#[101, 110, 100, 105, 102]⟩, .string ⟨#[102, 111, 114]⟩, .string ⟨#[105, 110]⟩, .string ⟨#[101, 110, 100, 102, 111, 114]⟩, .string ⟨#[119, 104, 105, 108, 101]⟩, .string ⟨#[101, 110, 100, 119, 104, 105, 108, 101]⟩, .string ⟨#[98, 114, 101, 97, 107]⟩, .string ⟨#[99, 111, 110, 116, 105, 110, 117, 101]⟩, .string ⟨#[114, 101, 116, 117, 114, 110]⟩, .string ⟨#[102, 111, 114, 107]⟩, .string ⟨#[101, 110, 100, 102, 111, 114, 107]⟩, .string ⟨#[116, 114, 121]⟩, .string ⟨#[101, 120, 99, 101, 112, 116]⟩, .string ⟨#[102, 105, 110, 97, 108, 108, 121]⟩, .string ⟨#[101, 110, 100, 116, 114, 121]⟩, .string ⟨#[97, 110, 121]⟩] 9)
  have hs := Ss.lit (D := Tv) (l := keysL) (heap_alloc_new w (.cells #[.string ⟨#[105, 102]⟩, .string ⟨#[101, 108, 115, 101, 105, 102]⟩, .string ⟨#[101, 108, 115, 101]⟩, .string ⟨#[101, 110, 100, 105, 102]⟩, .string ⟨#[102, 111, 114]⟩, .string ⟨#[105, 110]⟩, .string ⟨#[101, 110, 100, 102, 111, 114]⟩, .string ⟨#[119, 104, 105, 108, 101]⟩, .string ⟨#[101, 110, 100, 119, 104, 105, 108, 101]⟩, .string ⟨#[98, 114, 101, 97, 107]⟩, .string ⟨#[99, 111, 110, 116, 105, 110, 117, 101]⟩, .string ⟨#[114, 101, 116, 117, 114, 110]⟩, .string ⟨#[102, 111, 114, 107]⟩, .string ⟨#[101, 110, 100, 102, 111, 114, 107]⟩, .string ⟨#[116, 114, 121]⟩, .string ⟨#[101, 120, 99, 101, 112, 116]⟩, .string ⟨#[102, 105, 110, 97, 108, 108, 121]⟩, .string ⟨#[101, 110, 100, 116, 114, 121]⟩, .string ⟨#[97, 110, 121]⟩] 9)) rfl trivial (by decide)
  have HC := hid (rising_any keysL (by decide) (fun s hs => by
    have : ∀ s ∈ keysL, s.size ≤ 1099511627776 := by decide
    exact this s hs) Tv _ _ hs)
  have HF := hid hf
  clear hf hs
  go_enter Tryd.func78, Tryd.ntmps78
  go_wp2_with fail
  refine HC.out.mono ?_
  rintro e w2 ⟨L, v', rfl, ho, hm, hl, hf2⟩
  have HF2 := hid (HF.out.trans' hf2); have HS := hid ((Ss.own ho).mono fun _ _ _ => trivial); have HM := hid hm; have HL := hid hl
  clear ho hm hl hf2
  go_wp2_with fail
  go_ret
  exact ⟨L, _, rfl, HS.out, HM.out, HL.out, HF2.out⟩
/-- The document's named. -/
def dNamed (op : Int) (s : ByteArray) : Int :=
  if op = 2 ∨ op = 24 ∨ op = 42 ∨ op = 43 then (if pName s then 0 else 1) else if op = 50 then (if s.toList.isEmpty = false ∧ pName s = false then 1 else 0) else if s.toList.isEmpty = false then 2 else 0
theorem memB_same {s : ByteArray} {L M : List ByteArray} (h : ∀ s, s ∈ L ↔ s ∈ M) : memB s L = memB s M := by
  rw [Bool.eq_iff_iff, memB_iff, memB_iff]
  exact h s
set_option maxRecDepth 100000 in
set_option maxHeartbeats 800000 in
theorem dnamed_any (op ln vk vn : Int) (s vs : ByteArray) (va la : Value) (hs : s.size ≤ 1099511627776) (w : World) : Calls Tryd.prog 61 #[.agg #[.int .i64 op, .int .i64 ln, .string s, .int .i64 vk, .int .i64 vn, .string vs, va, la]] w fun e w' => e = .returned (.int .i64 (dNamed op s)) ∧ Fr (fun _ => False) w w' := by
  have HN := hid (fun w => disname_any s hs w)
  have HK := hid dkeys_any
  have HH := hid (fun (L : List ByteArray) (v : Value) (w : World) (hl : L.length ≤ 19) (h : Ss Tv w v L) => dholds_any s L (by omega) v w h)
  have HPN := hid (show pName s = (decide (bName s) && !memB s keysL) from rfl)
  have hf0 := (Fr.refl (fun _ => False) w).alloc (.cells #[.int .i64 op, .int .i64 ln, .string s, .int .i64 vk, .int .i64 vn, .string vs, va, la] 29)
  have hg0 := heap_alloc_new w (.cells #[.int .i64 op, .int .i64 ln, .string s, .int .i64 vk, .int .i64 vn, .string vs, va, la] 29)
  have HF0 := hid hf0
  have HSE := hid (rfl : s.toList.isEmpty = s.toList.isEmpty)
  clear hs hf0
  have hcase : (op = 2 ∨ op = 24 ∨ op = 42 ∨ op = 43) ∨ op = 50 ∨ ¬ (op = 2 ∨ op = 24 ∨ op = 42 ∨ op = 43 ∨ op = 50) := by omega
  rcases hcase with hop | hop | hop
  · have HD := hid (show dNamed op s = if pName s then 0 else 1 from if_pos hop)
    generalize hdn : dNamed op s = dn at *
    clear hdn
    generalize decide (bName s) = bn at *
    generalize hpn : pName s = pn at *
    clear hpn
    rcases hop with rfl | rfl | rfl | rfl
    all_goals
      go_enter Tryd.func61, Tryd.ntmps61
      go_upto_region 6 with fail
      generalize hW0 : w.alloc (.cells #[.int .i64 _, .int .i64 ln, .string s, .int .i64 vk, .int .i64 vn, .string vs, va, la] 29) = W0 at *
      have d2 : W0.cell? ⟨w.heap.size, 2, none⟩ = some (.string s) := by rw [cell_of_row _ _ 2 _ _ _ hg0]; rfl
      clear hW0 hg0
      refine wp_region_ord [(0, 0), (1, 0), (2, 1), (3, 0), (4, 0), (6, 0), (7, 0), (5, 1), (8, 1), (9, 0)] (fun w' => w'.cell? ⟨w.heap.size, 2, none⟩ = some (.string s)) (by kernel_rfl) (by kernel_rfl) (by kernel_rfl) rfl (fun _ _ d _ _ h => by cases d <;> exact h) d2 ?_
      iterate 2 (refine wpO_take ?_ rfl (by kernel_rfl) ?_ ?_; rotate_left; (· intro w' hS; go_simp; try with_reducible rfl); try simp only [Act.put, List.setIfInBounds_toArray, List.set_cons_zero, List.set_cons_succ])
      refine wpO_run rfl (by kernel_rfl) (fun K hK => ?_); go_simp
      refine (HN.out W0.drew).mono ?_
      rintro e w2 ⟨rfl, hf2⟩
      have d3 := hf2.cell (show W0.drew.cell? _ = _ from d2) not_false
      have HF2 := hid (HF0.out.drew.trans' hf2)
      refine hK _ _ (fun _ => d3) ?_
      clear hK K hf2
      try simp only [Act.put, List.setIfInBounds_toArray, List.set_cons_zero, List.set_cons_succ]
      cases bn
      · have HX := hid (show dn = 1 by rw [HD.out, HPN.out]; rfl)
        iterate 2 (refine wpO_take ?_ rfl (by kernel_rfl) ?_ ?_; rotate_left; (· intro w' hS; go_simp; try with_reducible rfl); try simp only [Act.put, List.setIfInBounds_toArray, List.set_cons_zero, List.set_cons_succ])
        iterate 2 (refine wpO_pass rfl (by kernel_rfl) ?_; try simp only [Act.put, List.setIfInBounds_toArray, List.set_cons_zero, List.set_cons_succ])
        (refine wpO_skip rfl (by kernel_rfl) d3 ?_; try simp only [Act.put, List.setIfInBounds_toArray, List.set_cons_zero, List.set_cons_succ])
        (refine wpO_skip rfl (by kernel_rfl) d3 ?_; try simp only [Act.put, List.setIfInBounds_toArray, List.set_cons_zero, List.set_cons_succ])
        (refine wpO_take ?_ rfl (by kernel_rfl) ?_ ?_; rotate_left; (· intro w' hS; go_simp; try with_reducible rfl); try simp only [Act.put, List.setIfInBounds_toArray, List.set_cons_zero, List.set_cons_succ])
        refine wpO_end ?_
        go_wp2_with fail
        go_ret
        exact ⟨ret_int HX.out.symm, HF2.out⟩
      · iterate 4 (refine wpO_take ?_ rfl (by kernel_rfl) ?_ ?_; rotate_left; (· intro w' hS; go_simp; try with_reducible rfl); try simp only [Act.put, List.setIfInBounds_toArray, List.set_cons_zero, List.set_cons_succ])
        refine wpO_run rfl (by kernel_rfl) (fun K hK => ?_); go_simp
        refine (HK.out w2).mono ?_
        rintro e w3 ⟨L, v3, rfl, hs3, hm3, hl3, hf3⟩
        have d4 := hf3.cell d3 not_false
        have HH3 := hid (HH.out L v3 w3 hl3 hs3)
        have HMS := hid (memB_same (s := s) hm3)
        have HF3 := hid (HF2.out.trans' hf3)
        obtain ⟨a3, c3, rfl, -⟩ := hs3
        clear hm3 hl3 hf3
        refine hK _ _ (fun _ => d4) ?_
        clear hK K
        try simp only [Act.put, List.setIfInBounds_toArray, List.set_cons_zero, List.set_cons_succ]
        refine wpO_run rfl (by kernel_rfl) (fun K hK => ?_); go_simp
        refine HH3.out.mono ?_
        rintro e w4 ⟨rfl, rfl⟩
        refine hK _ _ (fun _ => d4) ?_
        clear hK K
        try simp only [Act.put, List.setIfInBounds_toArray, List.set_cons_zero, List.set_cons_succ]
        have HX := hid (show dn = if memB s L then 1 else 0 by rw [HD.out, HPN.out, ← HMS.out]; cases memB s L <;> rfl)
        generalize memB s L = mb at *
        (refine wpO_take ?_ rfl (by kernel_rfl) ?_ ?_; rotate_left; (· intro w' hS; go_simp; try with_reducible rfl); try simp only [Act.put, List.setIfInBounds_toArray, List.set_cons_zero, List.set_cons_succ])
        refine wpO_end ?_
        cases mb
        · go_wp2_with fail
          go_ret
          exact ⟨ret_int HX.out.symm, HF3.out⟩
        · go_wp2_with fail
          go_ret
          exact ⟨ret_int HX.out.symm, HF3.out⟩
  · subst hop
    have HD := hid (show dNamed 50 s = if s.toList.isEmpty = false ∧ pName s = false then 1 else 0 from rfl)
    generalize hdn : dNamed 50 s = dn at *
    clear hdn
    generalize decide (bName s) = bn at *
    generalize hpn : pName s = pn at *
    clear hpn
    obtain ⟨se, hse⟩ : ∃ se, s.toList.isEmpty = se := ⟨_, rfl⟩
    rw [hse] at HD
    go_enter Tryd.func61, Tryd.ntmps61
    go_upto_region 10 with fail
    generalize hW0 : w.alloc (.cells #[.int .i64 50, .int .i64 ln, .string s, .int .i64 vk, .int .i64 vn, .string vs, va, la] 29) = W0 at *
    have d2 : W0.cell? ⟨w.heap.size, 2, none⟩ = some (.string s) := by rw [cell_of_row _ _ 2 _ _ _ hg0]; rfl
    clear hW0 hg0
    cases se
    · have hne : (s.toList != (⟨#[]⟩ : ByteArray).toList) = true := by
        rw [bne_iff_ne]
        intro h
        rw [h, bytes0'] at hse
        cases hse
      refine wp_region_ord [(0, 0), (1, 0), (2, 0), (3, 0), (4, 0), (5, 0), (6, 1), (7, 0), (8, 0), (10, 0), (11, 0), (9, 1), (12, 1), (13, 0), (14, 0)] (fun w' => w'.cell? ⟨w.heap.size, 2, none⟩ = some (.string s)) (by kernel_rfl) (by kernel_rfl) (by kernel_rfl) rfl (fun _ _ d _ _ h => by cases d <;> exact h) d2 ?_
      iterate 6 (refine wpO_take ?_ rfl (by kernel_rfl) ?_ ?_; rotate_left; (· intro w' hS; go_simp; try with_reducible rfl); try simp only [Act.put, List.setIfInBounds_toArray, List.set_cons_zero, List.set_cons_succ])
      refine wpO_run rfl (by kernel_rfl) (fun K hK => ?_); go_simp
      refine (HN.out W0.drew).mono ?_
      rintro e w2 ⟨rfl, hf2⟩
      have d3 := hf2.cell (show W0.drew.cell? _ = _ from d2) not_false
      have HF2 := hid (HF0.out.drew.trans' hf2)
      refine hK _ _ (fun _ => d3) ?_
      clear hK K hf2
      try simp only [Act.put, List.setIfInBounds_toArray, List.set_cons_zero, List.set_cons_succ]
      cases bn
      · have HX := hid (show dn = 1 by rw [HD.out, HPN.out]; rfl)
        iterate 2 (refine wpO_take ?_ rfl (by kernel_rfl) ?_ ?_; rotate_left; (· intro w' hS; go_simp; try with_reducible rfl); try simp only [Act.put, List.setIfInBounds_toArray, List.set_cons_zero, List.set_cons_succ])
        iterate 2 (refine wpO_pass rfl (by kernel_rfl) ?_; try simp only [Act.put, List.setIfInBounds_toArray, List.set_cons_zero, List.set_cons_succ])
        (refine wpO_skip rfl (by kernel_rfl) d3 ?_; try simp only [Act.put, List.setIfInBounds_toArray, List.set_cons_zero, List.set_cons_succ])
        (refine wpO_skip rfl (by kernel_rfl) d3 ?_; try simp only [Act.put, List.setIfInBounds_toArray, List.set_cons_zero, List.set_cons_succ])
        iterate 2 (refine wpO_take ?_ rfl (by kernel_rfl) ?_ ?_; rotate_left; (· intro w' hS; go_simp; try with_reducible rfl); try simp only [Act.put, List.setIfInBounds_toArray, List.set_cons_zero, List.set_cons_succ])
        refine wpO_end ?_
        go_wp2_with fail
        go_ret
        exact ⟨ret_int HX.out.symm, HF2.out⟩
      · iterate 4 (refine wpO_take ?_ rfl (by kernel_rfl) ?_ ?_; rotate_left; (· intro w' hS; go_simp; try with_reducible rfl); try simp only [Act.put, List.setIfInBounds_toArray, List.set_cons_zero, List.set_cons_succ])
        refine wpO_run rfl (by kernel_rfl) (fun K hK => ?_); go_simp
        refine (HK.out w2).mono ?_
        rintro e w3 ⟨L, v3, rfl, hs3, hm3, hl3, hf3⟩
        have d4 := hf3.cell d3 not_false
        have HH3 := hid (HH.out L v3 w3 hl3 hs3)
        have HMS := hid (memB_same (s := s) hm3)
        have HF3 := hid (HF2.out.trans' hf3)
        obtain ⟨a3, c3, rfl, -⟩ := hs3
        clear hm3 hl3 hf3
        refine hK _ _ (fun _ => d4) ?_
        clear hK K
        try simp only [Act.put, List.setIfInBounds_toArray, List.set_cons_zero, List.set_cons_succ]
        refine wpO_run rfl (by kernel_rfl) (fun K hK => ?_); go_simp
        refine HH3.out.mono ?_
        rintro e w4 ⟨rfl, rfl⟩
        refine hK _ _ (fun _ => d4) ?_
        clear hK K
        try simp only [Act.put, List.setIfInBounds_toArray, List.set_cons_zero, List.set_cons_succ]
        have HX := hid (show dn = if memB s L then 1 else 0 by rw [HD.out, HPN.out, ← HMS.out]; cases memB s L <;> rfl)
        generalize memB s L = mb at *
        iterate 2 (refine wpO_take ?_ rfl (by kernel_rfl) ?_ ?_; rotate_left; (· intro w' hS; go_simp; try with_reducible rfl); try simp only [Act.put, List.setIfInBounds_toArray, List.set_cons_zero, List.set_cons_succ])
        refine wpO_end ?_
        cases mb
        · go_wp2_with fail
          go_ret
          exact ⟨ret_int HX.out.symm, HF3.out⟩
        · go_wp2_with fail
          go_ret
          exact ⟨ret_int HX.out.symm, HF3.out⟩
    · have hne : (s.toList != (⟨#[]⟩ : ByteArray).toList) = false := by
        rw [bne_eq_false_iff_eq]
        have h1 := List.isEmpty_iff.1 hse
        have h2 := List.isEmpty_iff.1 bytes0'
        rw [h1, h2]
      have HX := hid (show dn = 0 by rw [HD.out]; rfl)
      go_quiet (fail)
      go_wp2_with fail
      go_ret
      exact ⟨ret_int HX.out.symm, HF0.out.drewN _⟩
  · have HD := hid (show dNamed op s = if s.toList.isEmpty = false then 2 else 0 by unfold dNamed; rw [if_neg (by omega), if_neg (by omega)])
    have q2 : (op == 2) = false := by rw [beq_eq_false_iff_ne]; omega
    have q24 : (op == 24) = false := by rw [beq_eq_false_iff_ne]; omega
    have q42 : (op == 42) = false := by rw [beq_eq_false_iff_ne]; omega
    have q43 : (op == 43) = false := by rw [beq_eq_false_iff_ne]; omega
    have q50 : (op == 50) = false := by rw [beq_eq_false_iff_ne]; omega
    generalize hdn : dNamed op s = dn at *
    clear hdn hop
    obtain ⟨se, hse⟩ : ∃ se, s.toList.isEmpty = se := ⟨_, rfl⟩
    rw [hse] at HD
    go_enter Tryd.func61, Tryd.ntmps61
    go_upto_region 13 with fail
    generalize hW0 : w.alloc (.cells #[.int .i64 op, .int .i64 ln, .string s, .int .i64 vk, .int .i64 vn, .string vs, va, la] 29) = W0 at *
    have d2 : W0.cell? ⟨w.heap.size, 2, none⟩ = some (.string s) := by rw [cell_of_row _ _ 2 _ _ _ hg0]; rfl
    clear hW0 hg0
    cases se
    · have hne : (s.toList != (⟨#[]⟩ : ByteArray).toList) = true := by
        rw [bne_iff_ne]
        intro h
        rw [h, bytes0'] at hse
        cases hse
      have HX := hid (show dn = 2 by rw [HD.out]; rfl)
      go_wp2_with fail
      go_ret
      exact ⟨ret_int HX.out.symm, HF0.out⟩
    · have hne : (s.toList != (⟨#[]⟩ : ByteArray).toList) = false := by
        rw [bne_eq_false_iff_eq]
        have h1 := List.isEmpty_iff.1 hse
        have h2 := List.isEmpty_iff.1 bytes0'
        rw [h1, h2]
      have HX := hid (show dn = 0 by rw [HD.out]; rfl)
      go_wp2_with fail
      go_ret
      exact ⟨ret_int HX.out.symm, HF0.out⟩
end Go.Proofs.YteihmagldhmjgaaDoor
