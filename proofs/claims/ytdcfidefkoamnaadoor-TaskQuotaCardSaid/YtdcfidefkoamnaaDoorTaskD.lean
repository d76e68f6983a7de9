/- Package task: Kill, Wake; slices.Delete of one item. -/
import Derived.Test.YtdcfidefkoamnaaDoorTaskC
namespace Go.Proofs.YtdcfidefkoamnaaDoor
open Go.RowKit

theorem wp_append_run {P : Program} {o : Oper} {a : Act} {w : World} {K : Act → World → Prop} {Q : Exit → Act → World → Prop} (s x : Operand) (t : TypeId)
    (ho : o.op = .call { callee := .builtin .append, args := #[s, x], argTypes := #[t, t] }) (v1 v2 : Value) (hs : a.eval s = v1) (hx : a.eval x = v2) (v : Value) (w' : World)
    (hr : (Builtin.append_ #[t, t] o.type #[v1, v2]).run P w = .ok v w') (h : K (a.put o.dst v) w') : o.wp P a w K Q := by
  unfold Oper.wp execOp
  simp only [ho, resolve, invoke, builtin, Sem.run_bind, Sem.run_pure, Result.andThen_ok, List.map_toArray, List.map_cons, List.map_nil, hs, hx, hr]
  exact h
/-- clear of one element. -/
theorem run_clear1 {P : Program} (w : World) (t e ty e' : TypeId) (z : Value) (ht : P.underlying t = some (.slice e)) (hv : ∀ w, (zeroValue e).run P w = .ok z w) (h1 : ∀ v ∈ z.cells.toList, v.oneCell' = true) (g off c : Nat) (cur : Array Value)
    (hg : w.heap[g]? = some (.cells cur e' (0, 0))) (hfit : off + z.cells.size ≤ cur.size) :
    (Builtin.clear_ #[t] ty #[.slice (some ⟨g, off, none⟩) 1 c]).run P w = .ok (.tuple #[]) (w.setRow g (cur.toList.take off ++ z.cells.toList ++ cur.toList.drop (off + z.cells.size)).toArray) := by
  have hzc : (Builtin.zeroCells z.cells 1).toList = z.cells.toList := by
    simp [Builtin.zeroCells]
    apply List.ext_getElem
    · simp
    · intro i h1 h2
      simp at h1
      simp [Nat.mod_eq_of_lt h1, h1]
  have hst := run_storeCells_at P g off e' z.cells.toList 0 cur w hg (by simpa using hfit) h1
  simp only [Nat.add_zero] at hst
  simp [Builtin.clear_, run_underlying ht, hv, hzc, hst]
/-- One cell of an owned row set. -/
theorem own_setCell {w : World} {base e sz n g cap : Nat} {xs : List Value} (h : w.ownsRow base e sz (.slice (some ⟨g, 0, none⟩) n cap) n xs) (j : Nat) (u : Value) (hj : j < n * sz) : (w.setCell ⟨g, j, none⟩ u).ownsRow base e sz (.slice (some ⟨g, 0, none⟩) n cap) n (xs.set j u) := by
  refine ⟨by simpa using h.1, .inr ?_⟩
  rcases h.2 with ⟨e, _⟩ | ⟨g', cap', cur, e, hb, hg, h1, h2, h3, h4⟩
  · cases e
  · simp only [Value.slice.injEq, Option.some.injEq, Addr.mk.injEq] at e
    obtain ⟨⟨rfl, _⟩, _, rfl⟩ := e
    refine ⟨g, cap, cur.setIfInBounds j u, rfl, hb, setCell_row j u hg, h1, h2, by simpa using h3, ?_⟩
    rw [← h4, Array.toList_setIfInBounds, List.take_set]
theorem own_open {w : World} {base e sz n g cap : Nat} {xs : List Value} (h : w.ownsRow base e sz (.slice (some ⟨g, 0, none⟩) n cap) n xs) : ∃ cur, base ≤ g ∧ w.heap[g]? = some (.cells cur e (0, 0)) ∧ n ≤ cap ∧ cap ≤ maxLen ∧ cur.size = cap * sz ∧ cur.toList.take (n * sz) = xs := by
  rcases h.2 with ⟨e, _⟩ | ⟨g', cap', cur, e, r⟩
  · cases e
  · simp only [Value.slice.injEq, Option.some.injEq, Addr.mk.injEq] at e
    obtain ⟨⟨rfl, _⟩, _, rfl⟩ := e
    exact ⟨cur, r⟩

theorem itsV_drop (L : List Itm) (k : Nat) : (itsV L).drop (k * 3) = itsV (L.drop k) := by
  have h1 : itsV L = itsV (L.take k) ++ itsV (L.drop k) := by rw [← itsV_app, List.take_append_drop]
  by_cases h : k ≤ L.length
  · rw [h1, List.drop_append_of_le_length (by simp; omega), List.drop_of_length_le (by simp; omega), List.nil_append]
  · rw [List.drop_of_length_le (by simp; omega), List.drop_of_length_le (by omega)]
    rfl
theorem itsV_one (L : List Itm) : ∀ u ∈ itsV L, u.oneCell' = true := by
  intro u hu
  simp only [itsV, List.mem_flatMap] at hu
  obtain ⟨x, -, hx⟩ := hu
  simp [itV] at hx
  rcases hx with rfl | rfl | rfl <;> rfl
theorem itsV_erase (L : List Itm) (k : Nat) : itsV (L.eraseIdx k) = (itsV L).take (k * 3) ++ (itsV L).drop (k * 3 + 3) := by
  rw [List.eraseIdx_eq_take_drop_succ, itsV_app, itsV_take, show k * 3 + 3 = (k + 1) * 3 by omega, itsV_drop]
set_option maxRecDepth 100000 in
set_option maxHeartbeats 3200000 in
theorem qdelete_any (base g cap k : Nat) (L : List Itm) (w : World) (ho : w.ownsRow base 31 3 (.slice (some ⟨g, 0, none⟩) L.length cap) L.length (itsV L)) (hk : k < L.length) (hn : L.length ≤ 1000000) :
    Calls Tryd.prog 35 #[.slice (some ⟨g, 0, none⟩) L.length cap, .int .i64 k, .int .i64 ((k : Int) + 1)] w fun e w' => e = .returned (.slice (some ⟨g, 0, none⟩) (L.length - 1) cap) ∧ w'.ownsRow base 31 3 (.slice (some ⟨g, 0, none⟩) (L.length - 1) cap) (L.eraseIdx k).length (itsV (L.eraseIdx k)) ∧ Fr (fun q => q = g) w w' := by
  obtain ⟨cur, hb, hg, h1, h2, h3, h4⟩ := own_open ho
  have hxl : (itsV L).length = L.length * 3 := itsV_length L
  have hXE := itsV_erase L k
  have hX1 := itsV_one L
  have hel : (L.eraseIdx k).length = L.length - 1 := by rw [List.length_eraseIdx]; simp [hk]
  have hxel : (itsV (L.eraseIdx k)).length = (L.length - 1) * 3 := by rw [itsV_length, hel]
  generalize itsV L = xs at *
  generalize itsV (L.eraseIdx k) = ys at *
  generalize L.length = n at *
  obtain ⟨ii, i1, i2, i3, i4⟩ := info_parts Tryd.info_item
  have hd : ((k : Int) == (k : Int) + 1) = false := by rw [beq_eq_false_iff_ne]; omega
  have hcell : ∀ j, j < n * 3 → w.cell? ⟨g, j, none⟩ = xs[j]? := fun j hj => by
    rw [cell_of_row w g j cur _ _ hg, ← h4, List.getElem?_take, if_pos hj]
    simp
  have hcapk : cap = k + 1 → n = k + 1 := by omega
  obtain ⟨ad, had⟩ : ∃ ad : Nat, ad = if cap = k + 1 then 0 else (k + 1) * 3 := ⟨_, rfl⟩
  have hsrc : ∀ j u, (xs.drop (k * 3 + 3))[j]? = some u → w.drew.cell? ((⟨g, ad, none⟩ : Addr).add j) = some u := by
    intro j u hj
    have hjl := (List.getElem?_eq_some_iff.1 hj).1
    rw [List.length_drop] at hjl
    have hne : ¬ cap = k + 1 := by omega
    have ha : (⟨g, ad, none⟩ : Addr).add j = ⟨g, ad + j, none⟩ := by unfold Addr.add; split <;> simp_all
    rw [ha, had, if_neg hne]
    have := hcell ((k + 1) * 3 + j) (by omega)
    rw [show w.drew.cell? = w.cell? from rfl, this, ← hj, List.getElem?_drop]
    congr 1
    omega
  have hap := fun ty => run_append_room (P := Tryd.prog) (w := w.drew) 60 ty 31 ii Tryd.underlying60 i1 g k cap cur hg ⟨g, ad, none⟩ (n - (k + 1)) (cap - (k + 1)) (xs.drop (k * 3 + 3)) (by rw [List.length_drop, hxl, i3]; omega) hsrc
    (fun u hu => hX1 u (List.mem_of_mem_drop hu)) (by omega) (by rw [List.length_drop, hxl, i3, h3]; omega)
  rw [i3] at hap
  have hkn : k + (n - (k + 1)) = n - 1 := by omega
  rw [hkn] at hap
  obtain ⟨cu2, hcu2⟩ : ∃ cu2 : Array Value, cu2 = (cur.toList.take (k * 3) ++ xs.drop (k * 3 + 3) ++ cur.toList.drop (k * 3 + (xs.drop (k * 3 + 3)).length)).toArray := ⟨_, rfl⟩
  rw [← hcu2] at hap
  have hcl : cur.toList.length = cap * 3 := by rw [Array.length_toList, h3]
  have hs2 : cu2.size = cap * 3 := by
    rw [hcu2]
    simp only [List.size_toArray, List.length_append, List.length_take, List.length_drop, hxl, hcl]
    omega
  have ht2 : cu2.toList.take ((n - 1) * 3) = ys := by
    rw [hcu2, List.take_append_of_le_length (by simp only [List.length_append, List.length_take, List.length_drop, hxl, hcl]; omega), List.take_of_length_le (by simp only [List.length_append, List.length_take, List.length_drop, hxl, hcl]; omega), hXE, ← h4, List.take_take, Nat.min_eq_left (by omega)]
  have hg2 : (w.drew.setRow g cu2).heap[g]? = some (.cells cu2 31 (0, 0)) := setRow_block hg
  have hcz := fun ty => run_clear1 (P := Tryd.prog) (w.drew.setRow g cu2) 60 31 ty 31 (.agg #[.int .i64 0, .int .i64 0, .int .i64 0]) Tryd.underlying60 Tryd.zeroValue31 (by intro v hv; simp [Value.cells] at hv; rcases hv with rfl | rfl | rfl <;> rfl) g ((n - 1) * 3) (cap - (n - 1)) cu2 hg2 (by rw [hs2]; simp [Value.cells]; omega)
  obtain ⟨cu3, hcu3⟩ : ∃ cu3 : Array Value, cu3 = (cu2.toList.take ((n - 1) * 3) ++ (Value.agg #[.int .i64 0, .int .i64 0, .int .i64 0]).cells.toList ++ cu2.toList.drop ((n - 1) * 3 + (Value.agg #[.int .i64 0, .int .i64 0, .int .i64 0]).cells.size)).toArray := ⟨_, rfl⟩
  rw [← hcu3] at hcz
  have hs3 : cu3.size = cap * 3 := by
    rw [hcu3]
    simp only [List.size_toArray, List.length_append, List.length_take, List.length_drop, Array.length_toList, hs2, Value.cells, List.length_cons, List.length_nil]
    simp
    omega
  have ht3 : cu3.toList.take ((n - 1) * 3) = ys := by
    rw [hcu3, List.take_append_of_le_length (by simp [hs2]; omega), List.take_append_of_le_length (by simp [hs2]; omega), List.take_take, Nat.min_self, ht2]
  have hg3 : ((w.drew.setRow g cu2).setRow g cu3).heap[g]? = some (.cells cu3 31 (0, 0)) := setRow_block hg2
  have hown : ((w.drew.setRow g cu2).setRow g cu3).ownsRow base 31 3 (.slice (some ⟨g, 0, none⟩) (n - 1) cap) (n - 1) ys :=
    ⟨hxel, .inr ⟨g, cap, cu3, rfl, hb, hg3, by omega, h2, hs3, ht3⟩⟩
  have hfr : Fr (fun q => q = g) w ((w.drew.setRow g cu2).setRow g cu3) := (((Fr.refl (fun q => q = g) w).drew).setRow (.inl rfl) cu2).setRow (.inl rfl) cu3
  rw [hel]
  have HOW := hid hown; have HFR := hid hfr; have HAP := hid hap; have HCZ := hid hcz; have HAD := hid had
  have hkI : (k : Int) + 1 ≤ n := by omega
  have hnI : (n : Int) ≤ 1000000 := by omega
  have hncI : n ≤ cap := h1
  clear ho hg h3 h4 hxl hXE hX1 hel hxel i1 i2 i3 i4 hcell hsrc hap hcu2 hcl hs2 ht2 hg2 hcz hcu3 hs3 ht3 hg3 hown hfr had hb hcapk hkn
  unfold maxLen at h2
  go_enter Tryd.func35, Tryd.ntmps35
  go_upto_region 5 with fail
  have hb1 : k ≤ cap := by omega
  have hb2 : (0 : Int) ≤ (k : Int) + 1 := by omega
  have hb3 : (k : Int) ≤ (k : Int) + 1 := by omega
  have hb4 : (k : Int) ≤ cap := by omega
  have hb5 : (n : Int) ≤ cap := by omega
  refine wp_region_ord [(0, 0), (1, 0), (2, 0), (3, 0), (4, 0), (5, 0), (6, 1), (7, 1)] (fun _ => True) (by kernel_rfl) (by kernel_rfl) (by kernel_rfl) rfl (fun _ _ d _ _ h => by cases d <;> exact h) trivial ?_
  by_cases hck : cap = k + 1
  · obtain rfl : ad = 0 := by rw [HAD.out, if_pos hck]
    obtain rfl : n = k + 1 := by omega
    have hb6 : (k : Int) ≤ (k : Int) + 1 := hb3
    subst hck
    simp only [Nat.sub_self, Nat.add_sub_cancel, Nat.add_sub_cancel_left] at HAP HCZ HOW HFR
    iterate 6 (refine wpO_take ?_ rfl (by kernel_rfl) ?_ ?_; rotate_left; (· intro w' hS; go_simp; try with_reducible rfl); try simp only [Act.put, List.setIfInBounds_toArray, List.set_cons_zero, List.set_cons_succ])
    refine wpO_run rfl (by kernel_rfl) (fun K hK => ?_)
    refine wp_append_run (.tmp 22) (.tmp 25) 60 rfl (.slice (some ⟨g, 0, none⟩) k (k + 1)) (.slice (some ⟨g, 0, none⟩) 0 0) rfl rfl _ _ (HAP.out _) ?_
    refine hK _ _ (fun _ => trivial) ?_
    clear hK K
    try simp only [Act.put, List.setIfInBounds_toArray, List.set_cons_zero, List.set_cons_succ]
    refine wpO_run rfl (by kernel_rfl) (fun K hK => ?_)
    go_simp
    refine hK _ _ (fun _ => trivial) ?_
    clear hK K
    try simp only [Act.put, List.setIfInBounds_toArray, List.set_cons_zero, List.set_cons_succ]
    refine wpO_end ?_
    have hcz := HCZ.out
    go_wp2_with fail
    go_ret
    exact ⟨rfl, HOW.out, HFR.out⟩
  · obtain rfl : ad = (k + 1) * 3 := by rw [HAD.out, if_neg hck]
    obtain ⟨m, rfl⟩ : ∃ m, n = m + 1 := ⟨n - 1, by omega⟩
    simp only [Nat.add_sub_cancel, Nat.add_sub_cancel_left, Nat.add_sub_add_right] at HAP HCZ HOW HFR
    have hb7 : m ≤ cap := by omega
    have hb6 : k ≤ m := by omega
    have hb8 : (m : Int) + 1 ≤ cap := by omega
    have hb9 : (m : Int) ≤ (m : Int) + 1 := by omega
    have hb10 : ¬ cap = m := by omega
    have hb11 : (m : Int) ≤ cap := by omega
    iterate 6 (refine wpO_take ?_ rfl (by kernel_rfl) ?_ ?_; rotate_left; (· intro w' hS; go_simp; try with_reducible rfl); try simp only [Act.put, List.setIfInBounds_toArray, List.set_cons_zero, List.set_cons_succ])
    refine wpO_run rfl (by kernel_rfl) (fun K hK => ?_)
    refine wp_append_run (.tmp 22) (.tmp 25) 60 rfl (.slice (some ⟨g, 0, none⟩) k cap) (.slice (some ⟨g, (k + 1) * 3, none⟩) (m - k) (cap - (k + 1))) rfl rfl _ _ (HAP.out _) ?_
    refine hK _ _ (fun _ => trivial) ?_
    clear hK K
    try simp only [Act.put, List.setIfInBounds_toArray, List.set_cons_zero, List.set_cons_succ]
    refine wpO_run rfl (by kernel_rfl) (fun K hK => ?_)
    go_simp
    refine hK _ _ (fun _ => trivial) ?_
    clear hK K
    try simp only [Act.put, List.setIfInBounds_toArray, List.set_cons_zero, List.set_cons_succ]
    refine wpO_end ?_
    have hcz := HCZ.out
    go_wp2_with fail
    go_ret
    exact ⟨rfl, HOW.out, HFR.out⟩

set_option maxRecDepth 100000 in
set_option maxHeartbeats 1600000 in
theorem qkill_no {base B : Nat} {w : World} {lv : Value} {L : List Itm} {nx : Int} (h : QAt base w B lv L nx) (hl : L.length ≤ 1000000) (id : Int) (hno : ∀ x ∈ L, x.id ≠ id) :
    Calls Tryd.prog 14 #[.pointer (some ⟨B, 0, none⟩), .int .i64 id] w fun e w' => e = .returned (.bool false) ∧ Fr (fun _ => False) w w' := by
  have hx := fidx_none id L 0 hno
  have HX := hid hx; have H := hid h; have HL := hid hl
  clear hx hno h hl
  go_enter Tryd.func14, Tryd.ntmps14
  go_wp2_with fail
  refine (qfind_any H.out HL.out id).mono ?_
  rintro e w2 ⟨rfl, hf⟩
  have HF := hid hf
  rw [HX.out]
  clear hf
  go_wp2_with fail
  go_ret
  exact ⟨rfl, HF.out⟩
set_option maxRecDepth 100000 in
set_option maxHeartbeats 1600000 in
theorem qkill_yes {base B : Nat} {w : World} {lv : Value} {L : List Itm} {nx : Int} (h : QAt base w B lv L nx) (hl : L.length ≤ 1000000) (id : Int) (k : Nat) (hk : fidx id L 0 = k) (hkl : k < L.length) :
    Calls Tryd.prog 14 #[.pointer (some ⟨B, 0, none⟩), .int .i64 id] w fun e w' => e = .returned (.bool true) ∧ ∃ lv', QAt base w' B lv' (L.eraseIdx k) nx ∧ Fr (QS B lv) w w' ∧ lv'.ownBlock = lv.ownBlock := by
  obtain ⟨g, cap, rfl⟩ : ∃ g cap, lv = .slice (some ⟨g, 0, none⟩) L.length cap := by
    rcases h.own.2 with ⟨_, h0⟩ | ⟨g, cap, cur, e, _⟩
    · omega
    · exact ⟨g, cap, e⟩
  have HK := hid hk; have H := hid h; have HL := hid hl; have HKL := hid hkl
  have hlI : (k : Int) ≤ 1000000 := by omega
  have hk0 : ¬ (k : Int) < 0 := by omega
  clear hk h hl hkl
  go_enter Tryd.func14, Tryd.ntmps14
  go_wp2_with fail
  refine (qfind_any H.out HL.out id).mono ?_
  rintro e w2 ⟨rfl, hf⟩
  have hQ2 := H.out.fr hf
  obtain ⟨c0, c1, cz⟩ := hQ2.cells
  have HF := hid hf; have HQ2 := hid hQ2
  rw [HK.out]
  clear hf hQ2
  go_wp2_with fail
  refine (qdelete_any base g cap k L w2 HQ2.out.own HKL.out HL.out).mono ?_
  rintro e w3 ⟨rfl, ho3, hf3⟩
  have hne : g ≠ B := HQ2.out.neB g rfl
  have hB3 := hf3.heap HQ2.out.heap (fun e => hne e.symm)
  have d0 : w3.cell? ⟨B, 0, none⟩ = some (.slice (some ⟨g, 0, none⟩) L.length cap) := by rw [cell_of_row _ _ _ _ _ _ hB3]; rfl
  have f0 : w3.frozen? ⟨B, 0, none⟩ = false := frozen_of_row _ _ _ _ _ hB3
  have hQ4 : QAt base (w3.setCell ⟨B, 0, none⟩ (.slice (some ⟨g, 0, none⟩) (L.length - 1) cap)) B (.slice (some ⟨g, 0, none⟩) (L.length - 1) cap) (L.eraseIdx k) nx := by
    have hel : (L.eraseIdx k).length = L.length - 1 := by have := HKL.out; rw [List.length_eraseIdx]; simp [this]
    refine QAt.setL hB3 HQ2.out.le ?_
    exact ho3
  have hF4 : Fr (QS B (.slice (some ⟨g, 0, none⟩) L.length cap)) w (w3.setCell ⟨B, 0, none⟩ (.slice (some ⟨g, 0, none⟩) (L.length - 1) cap)) := (HF.out.trans hf3 (U := QS B (.slice (some ⟨g, 0, none⟩) L.length cap)) (fun _ _ h => h.elim) (fun q _ e => .inr (by rw [e]; rfl))).setCell (p := ⟨B, 0, none⟩) (.inl (.inl rfl)) _
  have HQ4 := hid hQ4; have HF4 := hid hF4
  clear ho3 hf3 hB3 hQ4 hF4 c0 c1 cz
  go_wp2_with fail
  go_ret
  exact ⟨rfl, _, HQ4.out, HF4.out, rfl⟩

/-- With another time. -/
def Itm.at (x : Itm) (wk : Int) (h : -1 ≤ wk) : Itm := { x with wk := wk, hw := h }
theorem itsV_set (L : List Itm) (k : Nat) (x : Itm) (hx : L[k]? = some x) (wk : Int) (h : -1 ≤ wk) : itsV (L.set k (x.at wk h)) = (itsV L).set (k * 3 + 2) (.int .i64 wk) := by
  induction L generalizing k with
  | nil => simp at hx
  | cons y r ih =>
    have e : itsV (y :: r) = itV y ++ itsV r := rfl
    cases k with
    | zero =>
      simp at hx
      subst hx
      rw [e, List.set_append_left _ _ (by simp)]
      rfl
    | succ k =>
      have e2 : itsV ((y :: r).set (k + 1) (x.at wk h)) = itV y ++ itsV (r.set k (x.at wk h)) := rfl
      rw [e, e2, ih k (by simpa using hx), List.set_append_right _ _ (by simp; omega)]
      congr 2
      simp
      omega
set_option maxRecDepth 100000 in
set_option maxHeartbeats 1600000 in
theorem qwake_no {base B : Nat} {w : World} {lv : Value} {L : List Itm} {nx : Int} (h : QAt base w B lv L nx) (hl : L.length ≤ 1000000) (id wk : Int) (hno : (∀ x ∈ L, x.id ≠ id) ∨ wk < -1) :
    Calls Tryd.prog 17 #[.pointer (some ⟨B, 0, none⟩), .int .i64 id, .int .i64 wk] w fun e w' => e = .returned (.bool false) ∧ Fr (fun _ => False) w w' := by
  have H := hid h; have HL := hid hl; have HN := hid hno
  clear hno h hl
  go_enter Tryd.func17, Tryd.ntmps17
  go_wp2_with fail
  refine (qfind_any H.out HL.out id).mono ?_
  rintro e w2 ⟨rfl, hf⟩
  have HF := hid hf
  clear hf
  by_cases h0 : fidx id L 0 < 0
  · go_wp2_with fail
    go_ret
    exact ⟨rfl, HF.out⟩
  · have hw : wk < -1 := by
      rcases HN.out with h | h
      · rw [fidx_none id L 0 h] at h0
        omega
      · exact h
    go_wp2_with fail
    go_ret
    exact ⟨rfl, HF.out⟩
set_option maxRecDepth 100000 in
set_option maxHeartbeats 1600000 in
theorem qwake_yes {base B : Nat} {w : World} {lv : Value} {L : List Itm} {nx : Int} (h : QAt base w B lv L nx) (hl : L.length ≤ 1000000) (id wk : Int) (k : Nat) (x : Itm) (hk : fidx id L 0 = k) (hx : L[k]? = some x) (hwk : -1 ≤ wk) :
    Calls Tryd.prog 17 #[.pointer (some ⟨B, 0, none⟩), .int .i64 id, .int .i64 wk] w fun e w' => e = .returned (.bool true) ∧ QAt base w' B lv (L.set k (x.at wk hwk)) nx ∧ Fr (QS B lv) w w' := by
  have hkl : k < L.length := (List.getElem?_eq_some_iff.1 hx).1
  obtain ⟨g, cap, rfl⟩ : ∃ g cap, lv = .slice (some ⟨g, 0, none⟩) L.length cap := by
    rcases h.own.2 with ⟨_, h0⟩ | ⟨g, cap, cur, e, _⟩
    · omega
    · exact ⟨g, cap, e⟩
  have HK := hid hk; have H := hid h; have HL := hid hl; have HX := hid hx
  have hlI : (k : Int) ≤ 1000000 := by omega
  have hk0 : ¬ (k : Int) < 0 := by omega
  have hwI : ¬ wk < -1 := by omega
  clear hk h hl hx
  go_enter Tryd.func17, Tryd.ntmps17
  go_wp2_with fail
  refine (qfind_any H.out HL.out id).mono ?_
  rintro e w2 ⟨rfl, hf⟩
  have hQ2 := H.out.fr hf
  obtain ⟨c0, c1, cz⟩ := hQ2.cells
  obtain ⟨cur, hb, hg, h1, h2, h3, h4⟩ := own_open hQ2.own
  have hlt : k * 3 + 2 < cur.size := by rw [h3]; omega
  have d2 : w2.cell? ⟨g, k * 3 + 2, none⟩ = some cur[k * 3 + 2] := by rw [cell_of_row _ _ _ _ _ _ hg, Array.getElem?_eq_getElem hlt]
  have f2 : w2.frozen? ⟨g, k * 3 + 2, none⟩ = false := frozen_of_row _ _ _ _ _ hg
  have ho := own_setCell hQ2.own (k * 3 + 2) (.int .i64 wk) (by omega)
  rw [← itsV_set L k x HX.out wk hwk] at ho
  have hne : g ≠ B := hQ2.neB g rfl
  have hfs := (Fr.refl (fun q => q = g) w2).setCell (p := ⟨g, k * 3 + 2, none⟩) (.inl rfl) (.int .i64 wk)
  have hQ3 : QAt base (w2.setCell ⟨g, k * 3 + 2, none⟩ (.int .i64 wk)) B (.slice (some ⟨g, 0, none⟩) L.length cap) (L.set k (x.at wk hwk)) nx := ⟨hfs.heap hQ2.heap (fun e => hne e.symm), by rw [List.length_set]; exact ho, hQ2.le⟩
  have hF3 : Fr (QS B (.slice (some ⟨g, 0, none⟩) L.length cap)) w (w2.setCell ⟨g, k * 3 + 2, none⟩ (.int .i64 wk)) := hf.trans hfs (fun _ _ h => h.elim) (fun q _ e => .inr (by rw [e]; rfl))
  have HQ3 := hid hQ3; have HF3 := hid hF3
  generalize cur[k * 3 + 2] = old at *
  rw [HK.out]
  clear hf hQ2 hb hg h1 h2 h3 h4 hlt ho hfs hQ3 hF3 hne
  go_wp2_with fail
  go_ret
  exact ⟨rfl, HQ3.out, HF3.out⟩
end Go.Proofs.YtdcfidefkoamnaaDoor
