/- Package task: Add. -/
import Derived.Test.YtdcfidefkoamnaaDoorTaskA
import Derived.Test.YtdcfidefkoamnaaDoorRegion
namespace Go.Proofs.YtdcfidefkoamnaaDoor
open Go.RowKit

/-- One element of several cells appended (a region's run, or a plain operation). -/
theorem wp_appendR {P : Program} {o : Oper} {a : Act} {w : World} {K : Act → World → Prop} {Q : Exit → Act → World → Prop} (s x : Operand) (t : TypeId)
    (ho : o.op = .call { callee := .builtin .append, args := #[s, x], argTypes := #[t, t] })
    (e : TypeId) (z : Value) (sz bytes : Nat) (ht : P.underlying t = some (.slice e)) (hrow : (P.info? e).map (fun i => (i.zero, i.size, i.bytes)) = some (some z, sz, bytes)) (hzs : z.cells.size = sz) (hsz0 : 0 < sz)
    (v : Value) (hs : a.eval s = v) (base n : Nat) (xs : List Value) (hown : w.ownsRow base e sz v n xs)
    (g0 c : Nat) (us : List Value) (hus : us.length = sz) (hx : a.eval x = .slice (some ⟨g0, 0, none⟩) 1 c) (hu : ∀ j y, us[j]? = some y → w.cell? ⟨g0, j, none⟩ = some y) (h1 : ∀ y ∈ us, y.oneCell' = true)
    (h63 : n + 1 ≤ 1099511627776) (hby : bytes ≤ 64) (hbase : base ≤ w.heap.size)
    (h : ∀ g cap w', w'.ownsRow base e sz (.slice (some ⟨g, 0, none⟩) (n + 1) cap) (n + 1) (xs ++ us) → Fr (fun k => some k = v.ownBlock) w w' → (v.ownBlock = some g ∨ w.heap.size ≤ g) → K (a.put o.dst (.slice (some ⟨g, 0, none⟩) (n + 1) cap)) w') : o.wp P a w K Q := by
  obtain ⟨i, hi, hz, hsz, hbt⟩ := info_parts hrow
  have hb2 : (n + 1) * bytes ≤ 140737488355328 := by
    have := Nat.mul_le_mul h63 hby
    omega
  have key : ∃ g cap w', (Builtin.append_ #[t, t] o.type #[v, .slice (some ⟨g0, 0, none⟩) 1 c]).run P w = .ok (.slice (some ⟨g, 0, none⟩) (n + 1) cap) w' ∧ w'.ownsRow base e sz (.slice (some ⟨g, 0, none⟩) (n + 1) cap) (n + 1) (xs ++ us) ∧ w.grownBy w' v.ownBlock ∧ (v.ownBlock = some g ∨ w.heap.size ≤ g) := by
    have hcells : ∀ j y, us[j]? = some y → w.cell? ((⟨g0, 0, none⟩ : Addr).add j) = some y := by
      intro j y hy
      have : (⟨g0, 0, none⟩ : Addr).add j = ⟨g0, j, none⟩ := by unfold Addr.add; split <;> simp_all
      rw [this]
      exact hu j y hy
    have hmx : n + 1 ≤ maxLen := by unfold maxLen; omega
    obtain ⟨v', w', hr, ho', hg, hn⟩ := run_append_own (P := P) w base t o.type e i z sz bytes ht hi hz hsz hbt hzs hsz0 v n xs hown ⟨g0, 0, none⟩ 1 c us (by rw [hus, Nat.one_mul]) hcells h1 hmx hb2 hbase
    rcases ho'.2 with ⟨_, h0⟩ | ⟨g, cap, cur, rfl, hbg, hgg, _⟩
    · omega
    · refine ⟨g, cap, w', hr, ho', hg, ?_⟩
      rcases hown.2 with ⟨rfl, rfl⟩ | ⟨g1, cap1, cur1, rfl, hb1, hg1, hnc, hcm, hcs, htk⟩
      · refine .inr (Nat.le_of_not_lt fun hlt => ?_)
        have e1 := run_append_nil (P := P) w t o.type e i z ht hi hz ⟨g0, 0, none⟩ 1 c us (by rw [hus, hsz, Nat.one_mul]) hcells (by decide) (by decide) (by rw [hbt]; simp; omega)
        rw [hr] at e1
        simp only [Result.ok.injEq, Value.slice.injEq, Option.some.injEq, Addr.mk.injEq] at e1
        omega
      · by_cases hroom : n + 1 ≤ cap1
        · have e1 := run_append_room (P := P) w t o.type e i ht hi g1 n cap1 cur1 hg1 ⟨g0, 0, none⟩ 1 c us (by rw [hus, hsz, Nat.one_mul]) hcells h1 hroom (by rw [hcs, hus, hsz]; have := Nat.mul_le_mul_right sz hroom; rw [Nat.add_mul, Nat.one_mul] at this; exact this)
          rw [hr] at e1
          simp only [Result.ok.injEq, Value.slice.injEq, Option.some.injEq, Addr.mk.injEq] at e1
          left; simp [Value.ownBlock]; omega
        · have holds : ∀ j u, xs[j]? = some u → w.cell? ((⟨g1, 0, none⟩ : Addr).add j) = some u := hown.cells (g := g1) rfl
          have e1 := run_append_grow (P := P) w t o.type e i z ht hi hz ⟨g1, 0, none⟩ n cap1 xs (by rw [hsz]; exact hown.1) holds ⟨g0, 0, none⟩ 1 c us (by rw [hus, hsz, Nat.one_mul]) hcells (by unfold maxLen at hmx; omega) (by omega) (growslice_fits (by omega) (by rw [hbt]; exact hb2))
          rw [hr] at e1
          simp only [Result.ok.injEq, Value.slice.injEq, Option.some.injEq, Addr.mk.injEq] at e1
          right; simp at e1; omega
  obtain ⟨g, cap, w', hr, ho', hg, hw⟩ := key
  unfold Oper.wp execOp
  simp only [ho, resolve, invoke, builtin, Sem.run_bind, Sem.run_pure, Result.andThen_ok, List.map_toArray, List.map_cons, List.map_nil, hs, hx, hr]
  exact h g cap w' ho' (Fr.of_grownBy hg) hw
/-- The cells of a row that was laid last. -/
theorem cells_newR (w : World) (cs : Array Value) (t : TypeId) (fz : Nat × Nat) : ∀ j y, cs.toList[j]? = some y → (w.alloc (.cells cs t fz)).cell? ⟨w.heap.size, j, none⟩ = some y := by
  intro j y h
  have h0 : (w.alloc (.cells cs t fz)).heap[w.heap.size]? = some (.cells cs t fz) := heap_alloc_new w _
  rw [cell_of_row _ _ j _ _ _ h0]
  simpa using h

/-- What is amiss with an Add: an error's number. -/
def addI (L : List Itm) (nx o wk : Int) : Nat := if wk < -1 then 105 else if 1073741824 < nx then 104 else roomI L o
theorem add_no (L : List Itm) (nx o wk : Int) : ErrNo (addI L nx o wk) := by
  unfold addI
  split
  · exact .inr (by omega)
  · split
    · exact .inr (by omega)
    · exact room_no L o
set_option maxRecDepth 100000 in
set_option maxHeartbeats 1600000 in
theorem add_bad {base B : Nat} {w : World} {lv : Value} {L : List Itm} {nx : Int} (pa : Nat → Addr) (hS : S3 w pa) (h : QAt base w B lv L nx) (hl : L.length ≤ 1000000) (o wk : Int) (hm : addI L nx o wk ≠ 0) :
    Calls Tryd.prog 10 #[.pointer (some ⟨B, 0, none⟩), .int .i64 o, .int .i64 wk] w fun e w' => e = .returned (.tuple #[.int .i64 0, errV pa (addI L nx o wk)]) ∧ Fr (fun _ => False) w w' := by
  obtain ⟨-, c1, -⟩ := h.cells
  have g4 : w.cell? ⟨0, 0, none⟩ = some (.iface 124 (.pointer (some (pa 4)))) := hS 4 (by decide)
  have g3 : w.cell? ⟨1, 0, none⟩ = some (.iface 124 (.pointer (some (pa 3)))) := hS 3 (by decide)
  have H := hid h; have HL := hid hl; have HS := hid hS; have HM := hid hm
  clear h hl hS hm
  by_cases h1 : wk < -1
  · have hr : errV pa (addI L nx o wk) = .iface 124 (.pointer (some (pa 4))) := by unfold addI; rw [if_pos h1]; rfl
    have HR := hid hr
    clear hr g3
    go_enter Tryd.func10, Tryd.ntmps10
    go_wp2_with fail
    go_quiet (fail)
    go_wp2_with fail
    go_ret2
    exact ⟨by rw [HR.out]; rfl, (Fr.refl _ _).drewN _⟩
  · by_cases h2 : 1073741824 < nx
    · have hr : errV pa (addI L nx o wk) = .iface 124 (.pointer (some (pa 3))) := by unfold addI; rw [if_neg h1, if_pos h2]; rfl
      have HR := hid hr
      clear hr g4
      go_enter Tryd.func10, Tryd.ntmps10
      go_wp2_with fail
      go_quiet (fail)
      go_wp2_with fail
      go_ret2
      exact ⟨by rw [HR.out]; rfl, (Fr.refl _ _).drewN _⟩
    · have hr : addI L nx o wk = roomI L o := by unfold addI; rw [if_neg h1, if_neg h2]
      have HR := hid hr
      clear hr g3 g4
      go_enter Tryd.func10, Tryd.ntmps10
      go_wp2_with fail
      refine (room_any pa HS.out H.out HL.out o).mono ?_
      rintro e w2 ⟨rfl, hf⟩
      have hm2 := HM.out
      rw [HR.out] at hm2
      obtain ⟨p, hp⟩ : ∃ p, errV pa (roomI L o) = .iface 124 (.pointer (some p)) := ⟨_, by unfold errV; rw [if_neg hm2]⟩
      have HP := hid hp
      rw [hp]
      have HF := hid hf
      clear hm2 hp hf
      go_wp2_with fail
      go_ret2
      exact ⟨by rw [HR.out, HP.out]; rfl, HF.out⟩
set_option maxRecDepth 100000 in
set_option maxHeartbeats 3200000 in
theorem add_good {base B : Nat} {w : World} {lv : Value} {L : List Itm} (pa : Nat → Addr) (hS : S3 w pa) (x : Itm) (h : QAt base w B lv L x.id) (hl : L.length ≤ 1000000) (hm : addI L x.id x.own x.wk = 0) (hb : base ≤ w.heap.size) :
    Calls Tryd.prog 10 #[.pointer (some ⟨B, 0, none⟩), .int .i64 x.own, .int .i64 x.wk] w fun e w' => e = .returned (.tuple #[.int .i64 x.id, .nilIface]) ∧ ∃ lv', QAt base w' B lv' (L ++ [x]) (x.id + 1) ∧ Fr (QS B lv) w w' ∧ (∀ k, lv'.ownBlock = some k → lv.ownBlock = some k ∨ w.heap.size ≤ k) := by
  obtain ⟨-, c1, -⟩ := h.cells
  have hw1 : ¬ x.wk < -1 := by have := x.hw; omega
  have hn1 : ¬ 1073741824 < x.id := by have := x.h2; omega
  have hi1 := x.h1
  have hi2 := x.h2
  have hr : roomI L x.own = 0 := by unfold addI at hm; rw [if_neg hw1, if_neg hn1] at hm; exact hm
  have he : errV pa (roomI L x.own) = .nilIface := by rw [hr]; simp [errV]
  have H := hid h; have HL := hid hl; have HS := hid hS; have HE := hid he; have HB := hid hb
  clear h hl hS hm hr he hb
  go_enter Tryd.func10, Tryd.ntmps10
  go_wp2_with fail
  refine (room_any pa HS.out H.out HL.out x.own).mono ?_
  rintro e w2 ⟨rfl, hf⟩
  rw [HE.out]
  have hQ2 := H.out.fr hf
  have hb2 : base ≤ w2.heap.size := by have := hf.size; have := HB.out; omega
  obtain ⟨c0, c1', cz⟩ := hQ2.cells
  have HQ := hid hQ2; have HF := hid hf; have HB2 := hid hb2
  clear hQ2 hf c1 hb2
  go_upto_region 8 with fail
  refine wp_region_ord [(0, 0), (1, 0), (2, 0), (3, 0), (4, 0), (5, 0), (6, 0), (7, 0), (8, 0), (9, 0), (10, 0), (11, 0), (12, 1), (13, 1), (14, 1), (15, 1), (16, 1)] (fun w' => w'.cell? ⟨B, 0, none⟩ = some lv ∧ w'.cell? ⟨B, 1, none⟩ = some (.int .i64 x.id)) (by kernel_rfl) (by kernel_rfl) (by kernel_rfl) rfl (fun _ _ d _ _ h => by cases d <;> exact h) ⟨c0, c1'⟩ ?_
  iterate 12 (refine wpO_take ?_ rfl (by kernel_rfl) ?_ ?_; rotate_left; (· intro w' hS; have hS1 := hS.1; have hS2 := hS.2; go_simp; try with_reducible rfl); (try simp only [Act.put, List.setIfInBounds_toArray, List.set_cons_zero, List.set_cons_succ]))
  have hfa := (Fr.refl (fun _ => False) w2).drew.alloc (.cells #[.int .i64 x.id, .int .i64 x.own, .int .i64 x.wk] 31)
  have hcn := cells_newR w2.drew #[.int .i64 x.id, .int .i64 x.own, .int .i64 x.wk] 31 (0, 0)
  have hQa := HQ.out.fr hfa
  have hba : base ≤ (w2.drew.alloc (.cells #[.int .i64 x.id, .int .i64 x.own, .int .i64 x.wk] 31)).heap.size := by have := HB2.out; have := hfa.size; omega
  refine wpO_run rfl (by kernel_rfl) (fun K hK => ?_)
  go_simp
  refine hK _ _ (fun _ => ⟨hfa.cell c0 not_false, hfa.cell c1' not_false⟩) ?_
  clear hK K
  try simp only [Act.put, List.setIfInBounds_toArray, List.set_cons_zero, List.set_cons_succ]
  refine wpO_run rfl (by kernel_rfl) (fun K hK => ?_)
  refine wp_appendR (.tmp 28) (.tmp 36) 60 rfl 31 (.agg #[.int .i64 0, .int .i64 0, .int .i64 0]) 3 24 Tryd.underlying60 Tryd.info_item rfl (by decide) lv rfl base L.length (itsV L) hQa.own w2.drew.heap.size 1 [.int .i64 x.id, .int .i64 x.own, .int .i64 x.wk] rfl rfl hcn (by intro y hy; simp at hy; rcases hy with rfl | rfl | rfl <;> rfl) (by have := HL.out; omega) (by decide) hba ?_
  intro g cap w4 ho4 hf4 hg4
  have hB4 := hf4.heap hQa.heap (fun e => hQa.neB B e.symm rfl)
  have d0 : w4.cell? ⟨B, 0, none⟩ = some lv := by rw [cell_of_row _ _ _ _ _ _ hB4]; rfl
  have d1 : w4.cell? ⟨B, 1, none⟩ = some (.int .i64 x.id) := by rw [cell_of_row _ _ _ _ _ _ hB4]; rfl
  have f0 : w4.frozen? ⟨B, 0, none⟩ = false := frozen_of_row _ _ _ _ _ hB4
  refine hK _ _ (fun _ => ⟨d0, d1⟩) ?_
  clear hK K
  try simp only [Act.put, List.setIfInBounds_toArray, List.set_cons_zero, List.set_cons_succ]
  have ho5 : w4.ownsRow base 31 3 (.slice (some ⟨g, 0, none⟩) (L.length + 1) cap) (L ++ [x]).length (itsV (L ++ [x])) := by
    rw [itsV_app, List.length_append]
    exact ho4
  have hQ5 := QAt.setL hB4 HQ.out.le ho5
  have hF5 : Fr (QS B lv) w (w4.setCell ⟨B, 0, none⟩ (.slice (some ⟨g, 0, none⟩) (L.length + 1) cap)) := ((HF.out.trans' hfa).trans hf4 (U := QS B lv) (fun _ _ h => h.elim) (fun _ _ h => .inr h)).setCell (p := ⟨B, 0, none⟩) (.inl (.inl rfl)) _
  have hbk : ∀ k, (Value.slice (some ⟨g, 0, none⟩) (L.length + 1) cap).ownBlock = some k → lv.ownBlock = some k ∨ w.heap.size ≤ k := fun k hk => by
    obtain rfl : g = k := by simpa [Value.ownBlock] using hk
    rcases hg4 with h | h
    · exact .inl h
    · have h1 := HF.out.size
      have h2 : w2.heap.size ≤ (w2.drew.alloc (.cells #[.int .i64 x.id, .int .i64 x.own, .int .i64 x.wk] 31)).heap.size := hfa.size
      exact .inr (Nat.le_trans h1 (Nat.le_trans h2 h))
  have HQ5 := hid hQ5; have HF5 := hid hF5; have HBK := hid hbk
  clear ho4 hf4 hg4 hB4 ho5 hQ5 hF5 hbk hfa hcn hQa hba c0 c1' cz d1
  refine wpO_run rfl (by kernel_rfl) (fun K hK => ?_)
  go_simp
  refine hK _ _ (last_skip (by kernel_rfl)) ?_
  clear hK K
  try simp only [Act.put, List.setIfInBounds_toArray, List.set_cons_zero, List.set_cons_succ]
  refine wpO_run rfl (by kernel_rfl) (fun K hK => ?_)
  go_simp
  refine hK _ _ (last_skip (by kernel_rfl)) ?_
  clear hK K
  try simp only [Act.put, List.setIfInBounds_toArray, List.set_cons_zero, List.set_cons_succ]
  refine wpO_run rfl (by kernel_rfl) (fun K hK => ?_)
  go_simp
  refine hK _ _ (last_skip (by kernel_rfl)) ?_
  clear hK K
  try simp only [Act.put, List.setIfInBounds_toArray, List.set_cons_zero, List.set_cons_succ]
  refine wpO_end ?_
  generalize w4.setCell ⟨B, 0, none⟩ (.slice (some ⟨g, 0, none⟩) (L.length + 1) cap) = w5 at *
  obtain ⟨e0, e1, ez⟩ := HQ5.out.cells
  have hQ6 := HQ5.out.setN (x.id + 1)
  have hF6 := HF5.out.setCell (p := ⟨B, 1, none⟩) (.inl (.inl rfl)) (.int .i64 (x.id + 1))
  have HQ6 := hid hQ6; have HF6 := hid hF6
  clear hQ6 hF6 f0 d0
  go_wp2_with fail
  go_ret2
  exact ⟨by simp, _, HQ6.out, HF6.out, HBK.out⟩
end Go.Proofs.YtdcfidefkoamnaaDoor
