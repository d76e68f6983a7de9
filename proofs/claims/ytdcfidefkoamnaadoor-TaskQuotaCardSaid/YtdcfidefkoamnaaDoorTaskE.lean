/- Package task: the order of two items; slices.Clone of items; the library's sort of them. -/
import Derived.Test.YtdcfidefkoamnaaDoorTaskD
import Derived.Test.YtdcfidefkoamnaaDoorSortLay
import Derived.Shelf.SlSortCmp.NoneTotal
namespace Go.Proofs.YtdcfidefkoamnaaDoor
open Go.RowKit Go.Sort

theorem isnan_any (a : Int) (w : World) : Calls Tryd.prog 64 #[.int .i64 a] w fun e w' => e = .returned (.bool false) ∧ w = w' := by
  go_enter Tryd.func64, Tryd.ntmps64
  go_wp2
  go_ret
  exact ⟨rfl, rfl⟩
theorem compare_any (a b : Int) (w : World) : Calls Tryd.prog 49 #[.int .i64 a, .int .i64 b] w fun e w' => e = .returned (.int .i64 (cmpI a b)) ∧ w = w' := by
  unfold cmpI
  by_cases h1 : a < b
  · rw [if_pos h1]
    go_enter Tryd.func49, Tryd.ntmps49
    go_wp2_with (go_at_call 64; refine (isnan_any _ _).mono ?_; rintro e w' ⟨rfl, rfl⟩)
    go_ret
    exact ⟨rfl, rfl⟩
  · rw [if_neg h1]
    by_cases h2 : b < a
    · rw [if_pos h2]
      go_enter Tryd.func49, Tryd.ntmps49
      go_wp2_with (go_at_call 64; refine (isnan_any _ _).mono ?_; rintro e w' ⟨rfl, rfl⟩)
      go_ret
      exact ⟨rfl, rfl⟩
    · rw [if_neg h2]
      go_enter Tryd.func49, Tryd.ntmps49
      go_wp2_with (go_at_call 64; refine (isnan_any _ _).mono ?_; rintro e w' ⟨rfl, rfl⟩)
      go_ret
      exact ⟨rfl, rfl⟩
theorem or_any (a b : Int) (g c : Nat) (w : World) (h0 : w.cell? ⟨g, 0, none⟩ = some (.int .i64 a)) (h1 : w.cell? ⟨g, 1, none⟩ = some (.int .i64 b)) : Calls Tryd.prog 50 #[.slice (some ⟨g, 0, none⟩) 2 c] w fun e w' => e = .returned (.int .i64 (if a = 0 then b else a)) ∧ w = w' := by
  by_cases ha : a = 0
  · subst ha
    rw [if_pos rfl]
    go_enter Tryd.func50, Tryd.ntmps50
    go_wp2_with fail
    go_loop [8] (fun i => i = .int .i64 0 ∨ i = .int .i64 1 ∨ (i = .int .i64 2 ∧ b = 0)) (fun i => 2 - (intOf i).toNat)
    case atStart => exact .inl rfl
    case round =>
      rcases hrel with rfl | rfl | ⟨rfl, rfl⟩
      · go_wp2_with fail
        go_round
        case rel => exact .inr (.inl rfl)
        case measure => simp [intOf]
      · cases hb : (b != 0) with
        | true =>
          go_wp2_with fail
          go_ret
          exact ⟨rfl, rfl⟩
        | false =>
          have hb0 : b = 0 := by simpa using hb
          have HB := hid hb0
          clear hb0
          go_wp2_with fail
          go_round
          case rel => exact .inr (.inr ⟨rfl, HB.out⟩)
          case measure => simp [intOf]
      · go_wp2_with fail
        go_ret
        exact ⟨rfl, rfl⟩
  · rw [if_neg ha]
    have ha' : (a != 0) = true := by simpa using ha
    go_enter Tryd.func50, Tryd.ntmps50
    go_wp2_with fail
    go_loop [8] (fun i => i = .int .i64 0) (fun i => 2 - (intOf i).toNat)
    case atStart => rfl
    case round =>
      subst hrel
      go_wp2_with fail
      go_ret
      exact ⟨rfl, rfl⟩
set_option maxHeartbeats 1600000 in
theorem order_any (x y : Itm) (w : World) :
    Calls Tryd.prog 41 #[.agg #[.int .i64 x.id, .int .i64 x.own, .int .i64 x.wk], .agg #[.int .i64 y.id, .int .i64 y.own, .int .i64 y.wk]] w fun e w' => e = .returned (.int .i64 (cfI x y)) ∧ ∃ q os', w' = grow (w.drewN q) os' := by
  have hwr : IntKind.i64.wrap (x.id - y.id) = x.id - y.id := IntWalk.i64_in _ (by have := x.h1; have := x.h2; have := y.h1; have := y.h2; omega)
  by_cases hs : (x.wk = -1 ↔ y.wk = -1)
  · have hcf : cfI x y = if cmpI x.wk y.wk = 0 then x.id - y.id else cmpI x.wk y.wk := by unfold cfI; rw [if_pos hs]
    have hb : (x.wk == -1) = (y.wk == -1) := by rw [Bool.eq_iff_iff]; simpa using hs
    have HCF := hid hcf
    clear hcf hs
    obtain ⟨bb, hbb⟩ : ∃ bb : Bool, (y.wk == -1) = bb := ⟨_, rfl⟩
    rw [hbb] at hb
    have hx0 := ((Fr.refl (fun _ => False) (w.alloc (.cells #[.int .i64 x.id, .int .i64 x.own, .int .i64 x.wk] 31))).alloc (.cells #[.int .i64 y.id, .int .i64 y.own, .int .i64 y.wk] 31)).heap (heap_alloc_new w (.cells #[.int .i64 x.id, .int .i64 x.own, .int .i64 x.wk] 31)) not_false
    have hy0 := heap_alloc_new (w.alloc (.cells #[.int .i64 x.id, .int .i64 x.own, .int .i64 x.wk] 31)) (.cells #[.int .i64 y.id, .int .i64 y.own, .int .i64 y.wk] 31)
    rw [show (w.alloc (.cells #[.int .i64 x.id, .int .i64 x.own, .int .i64 x.wk] 31)).heap.size = w.heap.size + 1 by simp] at hy0
    have hgw : (w.alloc (.cells #[.int .i64 x.id, .int .i64 x.own, .int .i64 x.wk] 31)).alloc (.cells #[.int .i64 y.id, .int .i64 y.own, .int .i64 y.wk] 31) = grow w #[.cells #[.int .i64 x.id, .int .i64 x.own, .int .i64 x.wk] 31, .cells #[.int .i64 y.id, .int .i64 y.own, .int .i64 y.wk] 31] := by
      rw [alloc_eq_grow, alloc_eq_grow, grow_grow]
      rfl
    have HX := hid hx0; have HY := hid hy0; have HG := hid hgw
    clear hx0 hy0 hgw
    go_enter Tryd.func41, Tryd.ntmps41
    go_upto_region 3 with fail
    generalize (w.alloc (.cells #[.int .i64 x.id, .int .i64 x.own, .int .i64 x.wk] 31)).alloc (.cells #[.int .i64 y.id, .int .i64 y.own, .int .i64 y.wk] 31) = W at *
    have x0 : W.cell? ⟨w.heap.size, 0, none⟩ = some (.int .i64 x.id) := by rw [cell_of_row _ _ _ _ _ _ HX.out]; rfl
    have x2 : W.cell? ⟨w.heap.size, 2, none⟩ = some (.int .i64 x.wk) := by rw [cell_of_row _ _ _ _ _ _ HX.out]; rfl
    have y0 : W.cell? ⟨w.heap.size + 1, 0, none⟩ = some (.int .i64 y.id) := by rw [cell_of_row _ _ _ _ _ _ HY.out]; rfl
    have y2 : W.cell? ⟨w.heap.size + 1, 2, none⟩ = some (.int .i64 y.wk) := by rw [cell_of_row _ _ _ _ _ _ HY.out]; rfl
    refine wp_region_ord [(0, 0), (1, 0), (2, 0), (3, 0), (5, 0), (6, 0), (7, 0), (8, 0), (9, 0), (4, 1), (10, 1), (11, 1), (12, 1)] (fun w' => w'.cell? ⟨w.heap.size, 0, none⟩ = some (.int .i64 x.id) ∧ w'.cell? ⟨w.heap.size, 2, none⟩ = some (.int .i64 x.wk) ∧ w'.cell? ⟨w.heap.size + 1, 0, none⟩ = some (.int .i64 y.id) ∧ w'.cell? ⟨w.heap.size + 1, 2, none⟩ = some (.int .i64 y.wk)) (by kernel_rfl) (by kernel_rfl) (by kernel_rfl) rfl (fun _ _ d _ _ h => by cases d <;> exact h) ⟨x0, x2, y0, y2⟩ ?_
    iterate 9 (refine wpO_take ?_ rfl (by kernel_rfl) ?_ ?_; rotate_left; (· intro w' hS; obtain ⟨hS1, hS2, hS3, hS4⟩ := hS; go_simp; try with_reducible rfl); (try simp only [Act.put, List.setIfInBounds_toArray, List.set_cons_zero, List.set_cons_succ]))
    clear hwr
    refine wpO_run rfl (by kernel_rfl) (fun K hK => ?_)
    go_simp
    refine (compare_any x.wk y.wk W.drew).mono ?_
    rintro e w2 ⟨rfl, rfl⟩
    refine hK _ _ (fun _ => ⟨x0, x2, y0, y2⟩) ?_
    clear hK K
    try simp only [Act.put, List.setIfInBounds_toArray, List.set_cons_zero, List.set_cons_succ]
    have hfa := (Fr.refl (fun _ => False) W).drew.alloc (.cells #[.int .i64 (cmpI x.wk y.wk), .int .i64 (x.id - y.id)] 3)
    have HFA := hid hfa
    have hrow := heap_alloc_new W (.cells #[.int .i64 (cmpI x.wk y.wk), .int .i64 (x.id - y.id)] 3)
    have r0 : (W.alloc (.cells #[.int .i64 (cmpI x.wk y.wk), .int .i64 (x.id - y.id)] 3)).cell? ⟨W.heap.size, 0, none⟩ = some (.int .i64 (cmpI x.wk y.wk)) := by rw [cell_of_row _ _ _ _ _ _ hrow]; rfl
    have r1 : (W.alloc (.cells #[.int .i64 (cmpI x.wk y.wk), .int .i64 (x.id - y.id)] 3)).cell? ⟨W.heap.size, 1, none⟩ = some (.int .i64 (x.id - y.id)) := by rw [cell_of_row _ _ _ _ _ _ hrow]; rfl
    have R0 := hid r0; have R1 := hid r1
    clear r0 r1 hrow
    refine wpO_run rfl (by kernel_rfl) (fun K hK => ?_)
    go_simp
    have hS5 := (⟨HFA.out.cell x0 not_false, HFA.out.cell x2 not_false, HFA.out.cell y0 not_false, HFA.out.cell y2 not_false⟩ : _ ∧ _ ∧ _ ∧ _)
    refine hK _ _ (fun _ => hS5) ?_
    clear hK K hfa
    try simp only [Act.put, List.setIfInBounds_toArray, List.set_cons_zero, List.set_cons_succ]
    refine wpO_run rfl (by kernel_rfl) (fun K hK => ?_)
    go_simp
    refine (or_any (cmpI x.wk y.wk) (x.id - y.id) W.heap.size 2 (W.alloc (.cells #[.int .i64 (cmpI x.wk y.wk), .int .i64 (x.id - y.id)] 3)).drew R0.out R1.out).mono ?_
    rintro e w2 ⟨he, rfl⟩
    rw [← HCF.out] at he
    subst he
    refine hK _ _ (fun _ => hS5) ?_
    clear hK K
    try simp only [Act.put, List.setIfInBounds_toArray, List.set_cons_zero, List.set_cons_succ]
    refine wpO_run rfl (by kernel_rfl) (fun K hK => ?_)
    go_simp
    refine hK _ _ (fun _ => hS5) ?_
    clear hK K hS5
    try simp only [Act.put, List.setIfInBounds_toArray, List.set_cons_zero, List.set_cons_succ]
    refine wpO_end ?_
    clear x0 x2 y0 y2
    go_wp2_with fail
    go_ret
    refine ⟨rfl, 1, #[.cells #[.int .i64 x.id, .int .i64 x.own, .int .i64 x.wk] 31, .cells #[.int .i64 y.id, .int .i64 y.own, .int .i64 y.wk] 31] ++ #[.cells #[.int .i64 (cmpI x.wk y.wk), .int .i64 (x.id - y.id)] 3], ?_⟩
    rw [alloc_eq_grow, HG.out]
    exact grow_grow (w.drewN 1) _ _
  · have hcf : cfI x y = cmpI y.wk x.wk := by unfold cfI; rw [if_neg hs]
    have HCF := hid hcf
    obtain ⟨bb, hbb⟩ : ∃ bb : Bool, (y.wk == -1) = bb := ⟨_, rfl⟩
    have hb : (x.wk == -1) = !bb := by
      rw [← hbb]
      by_cases h1 : x.wk = -1 <;> by_cases h2 : y.wk = -1 <;> simp [h1, h2] at hs ⊢
    clear hcf hs hwr
    cases bb with
    | true =>
      have hb' : (x.wk == -1) = false := hb
      clear hb
      go_enter Tryd.func41, Tryd.ntmps41
      go_wp2_with fail
      refine (compare_any y.wk x.wk _).mono ?_
      rintro e w2 ⟨rfl, rfl⟩
      go_wp2_with fail
      go_ret
      exact ⟨ret_int HCF.out.symm, 0, _, by rw [alloc_eq_grow, alloc_eq_grow, grow_grow]; rfl⟩
    | false =>
      have hb' : (x.wk == -1) = true := hb
      clear hb
      go_enter Tryd.func41, Tryd.ntmps41
      go_wp2_with fail
      refine (compare_any y.wk x.wk _).mono ?_
      rintro e w2 ⟨rfl, rfl⟩
      go_wp2_with fail
      go_ret
      exact ⟨ret_int HCF.out.symm, 0, _, by rw [alloc_eq_grow, alloc_eq_grow, grow_grow]; rfl⟩

theorem cmpLays (blk off size : Nat) (w : World) : CmpLays Tryd.prog 41 #[] itV 3 cfI blk off size w := fun _ _ _ _ x y => order_any x y _

/-- All elements of a slice of several cells each appended to a row of its own. -/
theorem wp_appendNR {P : Program} {o : Oper} {a : Act} {w : World} {K : Act → World → Prop} {Q : Exit → Act → World → Prop} (s x : Operand) (t : TypeId)
    (ho : o.op = .call { callee := .builtin .append, args := #[s, x], argTypes := #[t, t] })
    (e : TypeId) (z : Value) (sz bytes : Nat) (ht : P.underlying t = some (.slice e)) (hrow : (P.info? e).map (fun i => (i.zero, i.size, i.bytes)) = some (some z, sz, bytes)) (hzs : z.cells.size = sz) (hsz0 : 0 < sz)
    (v : Value) (hs : a.eval s = v) (base n : Nat) (xs : List Value) (hown : w.ownsRow base e sz v n xs)
    (g0 o0 m c : Nat) (us : List Value) (hus : us.length = m * sz) (hx : a.eval x = .slice (some ⟨g0, o0, none⟩) m c) (hu : ∀ j y, us[j]? = some y → w.cell? ⟨g0, o0 + j, none⟩ = some y) (h1 : ∀ y ∈ us, y.oneCell' = true)
    (h63 : n + m ≤ 1099511627776) (hby : bytes ≤ 64) (hbase : base ≤ w.heap.size)
    (h : ∀ v' w', w'.ownsRow base e sz v' (n + m) (xs ++ us) → Fr (fun k => some k = v.ownBlock) w w' → (∀ k, v'.ownBlock = some k → v.ownBlock = some k ∨ w.heap.size ≤ k) → K (a.put o.dst v') w') : o.wp P a w K Q := by
  obtain ⟨i, hi, hz, hsz, hbt⟩ := info_parts hrow
  have hb2 : (n + m) * bytes ≤ 140737488355328 := by
    have := Nat.mul_le_mul h63 hby
    omega
  have hcells : ∀ j y, us[j]? = some y → w.cell? ((⟨g0, o0, none⟩ : Addr).add j) = some y := by
    intro j y hy
    have : (⟨g0, o0, none⟩ : Addr).add j = ⟨g0, o0 + j, none⟩ := by unfold Addr.add; split <;> simp_all
    rw [this]
    exact hu j y hy
  have hmx : n + m ≤ maxLen := by unfold maxLen; omega
  obtain ⟨v', w', hr, ho', hg, hnil⟩ := run_append_own (P := P) w base t o.type e i z sz bytes ht hi hz hsz hbt hzs hsz0 v n xs hown ⟨g0, o0, none⟩ m c us hus hcells h1 hmx hb2 hbase
  have hw : ∀ k, v'.ownBlock = some k → v.ownBlock = some k ∨ w.heap.size ≤ k := fun k hk => by
    rcases hown.2 with ⟨rfl, rfl⟩ | ⟨g1, cap1, cur1, rfl, hb1, hg1, hnc, hcm, hcs, htk⟩
    · by_cases hm0 : m = 0
      · rw [hnil.2 ⟨rfl, hm0⟩] at hk
        exact .inl hk
      · have e1 := run_append_nil (P := P) w t o.type e i z ht hi hz ⟨g0, o0, none⟩ m c us (by rw [hsz]; exact hus) hcells (by omega) (by unfold maxLen at hmx; omega) (by rw [hbt]; simp only [Nat.zero_add] at hb2; omega)
        rw [hr] at e1
        simp only [Result.ok.injEq] at e1
        rw [e1.1] at hk
        simp only [Value.ownBlock, Option.some.injEq] at hk
        exact .inr (by omega)
    · by_cases hroom : n + m ≤ cap1
      · have e1 := run_append_room (P := P) w t o.type e i ht hi g1 n cap1 cur1 hg1 ⟨g0, o0, none⟩ m c us (by rw [hsz]; exact hus) hcells h1 hroom (by rw [hsz, hus, hcs]; have := Nat.mul_le_mul_right sz hroom; rw [Nat.add_mul] at this; exact this)
        rw [hr] at e1
        simp only [Result.ok.injEq] at e1
        rw [e1.1] at hk
        exact .inl hk
      · have holds : ∀ j u, xs[j]? = some u → w.cell? ((⟨g1, 0, none⟩ : Addr).add j) = some u := hown.cells (g := g1) rfl
        have e1 := run_append_grow (P := P) w t o.type e i z ht hi hz ⟨g1, 0, none⟩ n cap1 xs (by rw [hsz]; exact hown.1) holds ⟨g0, o0, none⟩ m c us (by rw [hsz]; exact hus) hcells (by unfold maxLen at hmx; omega) (by omega) (growslice_fits (by omega) (by rw [hbt]; exact hb2))
        rw [hr] at e1
        simp only [Result.ok.injEq] at e1
        rw [e1.1] at hk
        simp only [Value.ownBlock, Option.some.injEq] at hk
        exact .inr (by omega)
  unfold Oper.wp execOp
  simp only [ho, resolve, invoke, builtin, Sem.run_bind, Sem.run_pure, Result.andThen_ok, List.map_toArray, List.map_cons, List.map_nil, hs, hx, hr]
  exact h v' w' ho' (Fr.of_grownBy hg) hw
theorem wpList_appendNR {P : Program} {ops : Array Oper} {rest : List Oper} {o : Oper} {a : Act} {w : World} {Q : Exit → Act → World → Prop} (hgd : o.guard = none) (s x : Operand) (t : TypeId)
    (ho : o.op = .call { callee := .builtin .append, args := #[s, x], argTypes := #[t, t] })
    (e : TypeId) (z : Value) (sz bytes : Nat) (ht : P.underlying t = some (.slice e)) (hrow : (P.info? e).map (fun i => (i.zero, i.size, i.bytes)) = some (some z, sz, bytes)) (hzs : z.cells.size = sz) (hsz0 : 0 < sz)
    (v : Value) (hs : a.eval s = v) (base n : Nat) (xs : List Value) (hown : w.ownsRow base e sz v n xs)
    (g0 o0 m c : Nat) (us : List Value) (hus : us.length = m * sz) (hx : a.eval x = .slice (some ⟨g0, o0, none⟩) m c) (hu : ∀ j y, us[j]? = some y → w.cell? ⟨g0, o0 + j, none⟩ = some y) (h1 : ∀ y ∈ us, y.oneCell' = true)
    (h63 : n + m ≤ 1099511627776) (hby : bytes ≤ 64) (hbase : base ≤ w.heap.size)
    (h : ∀ v' w', w'.ownsRow base e sz v' (n + m) (xs ++ us) → Fr (fun k => some k = v.ownBlock) w w' → (∀ k, v'.ownBlock = some k → v.ownBlock = some k ∨ w.heap.size ≤ k) → wpList P ops Q rest (a.put o.dst v') w') : wpList P ops Q (o :: rest) a w :=
  wpList_plain hgd fun _ hK => wp_appendNR s x t ho e z sz bytes ht hrow hzs hsz0 v hs base n xs hown g0 o0 m c us hus hx hu h1 h63 hby hbase fun v' w' h1 h2 h3 => hK _ _ (h v' w' h1 h2 h3)

set_option maxRecDepth 100000 in
set_option maxHeartbeats 1600000 in
theorem qclone_any {base : Nat} (w : World) (lv : Value) (L : List Itm) (ho : w.ownsRow base 31 3 lv L.length (itsV L)) (hl : L.length ≤ 1000000) :
    Calls Tryd.prog 36 #[lv] w fun e w' => ∃ v', e = .returned v' ∧ w'.ownsRow w.heap.size 31 3 v' L.length (itsV L) ∧ Fr (fun _ => False) w w' := by
  rcases ho.2 with ⟨rfl, h0⟩ | ⟨g, cap, cur, rfl, hb, hg, h1, h2, h3, h4⟩
  · have hL : L = [] := List.eq_nil_of_length_eq_zero h0
    subst hL
    have h1 := Lib.run_eql_slice_nil (P := Tryd.prog)
    clear ho hl h0
    go_enter Tryd.func36, Tryd.ntmps36
    go_wp2_with fail
    go_ret
    exact ⟨_, rfl, World.ownsRow_nil _ _ _ _, Fr.refl _ _⟩
  · have hcell : ∀ j y, (itsV L)[j]? = some y → (w.alloc (.cells #[] 31)).cell? ⟨g, 0 + j, none⟩ = some y := fun j y hj => by
      have hjl := (List.getElem?_eq_some_iff.1 hj).1
      rw [itsV_length] at hjl
      rw [Nat.zero_add]
      refine alloc_cell _ ?_
      rw [cell_of_row w g j cur _ _ hg]
      rw [← h4, List.getElem?_take, if_pos hjl] at hj
      simpa using hj
    have hone := itsV_one L
    have hown := World.ownsRow_made (base := w.heap.size) (e := 31) (size := 3) w #[] 0 (Nat.le_refl _) (by simp [maxLen]) (by simp)
    have hxl := itsV_length L
    have hF := (Fr.refl (fun _ => False) w).alloc (.cells #[] 31)
    obtain ⟨ii, i1, i2, i3, i4⟩ := info_parts Tryd.info_item
    obtain ⟨v', w4, hr, ho4, hg4, -⟩ := run_append_own (P := Tryd.prog) (w.alloc (.cells #[] 31)) w.heap.size 60 60 31 ii (.agg #[.int .i64 0, .int .i64 0, .int .i64 0]) 3 24 Tryd.underlying60 i1 i2 i3 i4 rfl (by decide) (.slice (some ⟨w.heap.size, 0, none⟩) 0 0) 0 [] hown ⟨g, 0, none⟩ L.length cap (itsV L) hxl (fun j y hj => by rw [show (⟨g, 0, none⟩ : Addr).add j = ⟨g, 0 + j, none⟩ by unfold Addr.add; split <;> simp_all]; exact hcell j y hj) hone (by unfold maxLen; omega) (by omega) hF.size
    have hf4 := Fr.of_grownBy hg4
    have hF4 := hF.trans hf4 (U := fun _ => False) (fun _ _ h => h) (fun q hq e => by simp [Value.ownBlock] at e; omega)
    rw [Nat.zero_add, List.nil_append] at ho4
    have HO4 := hid ho4; have HF4 := hid hF4
    have hnil := Lib.run_eql_slice_nil (P := Tryd.prog)
    clear ho hcell hone hown hxl hl h3 h4 hb hg h1 h2 hF hf4 hg4 i1 i2 i3 i4 ho4 hF4
    go_enter Tryd.func36, Tryd.ntmps36
    go_upto_if 4 with fail
    refine wp_cond_false rfl ?_
    go_step
    go_step
    go_step
    go_step
    refine wp_region_lit ?_
    refine wpList_plain rfl (fun K hK => ?_)
    go_simp
    refine hK _ _ ?_
    clear hK K
    try simp only [Act.put, List.setIfInBounds_toArray, List.set_cons_zero, List.set_cons_succ]
    refine wpList_plain rfl (fun K hK => ?_)
    go_simp
    refine hK _ _ ?_
    clear hK K
    try simp only [Act.put, List.setIfInBounds_toArray, List.set_cons_zero, List.set_cons_succ]
    refine wpList_plain rfl (fun K hK => ?_)
    refine wp_append_run (.tmp 5) (.tmp 6) 60 rfl (.slice (some ⟨w.heap.size, 0, none⟩) 0 0) (.slice (some ⟨g, 0, none⟩) L.length cap) rfl rfl v' w4 hr ?_
    refine hK _ _ ?_
    clear hK K
    try simp only [Act.put, List.setIfInBounds_toArray, List.set_cons_zero, List.set_cons_succ]
    go_wp2_with fail
    go_ret
    exact ⟨_, rfl, HO4.out, HF4.out⟩
end Go.Proofs.YtdcfidefkoamnaaDoor
