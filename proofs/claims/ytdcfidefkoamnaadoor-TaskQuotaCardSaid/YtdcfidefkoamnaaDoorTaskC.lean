/- Package task: Put. -/
import Derived.Test.YtdcfidefkoamnaaDoorTaskB
import Derived.IntWalk
import Derived.StillTailTactics
namespace Go.Proofs.YtdcfidefkoamnaaDoor
open Go.RowKit

theorem fidx_none (id : Int) : ∀ (L : List Itm) (k : Nat), (∀ x ∈ L, x.id ≠ id) → fidx id L k = -1
  | [], _, _ => rfl
  | x :: r, k, h => by
    rw [fidx, if_neg (h x (List.mem_cons_self ..))]
    exact fidx_none id r (k + 1) fun y hy => h y (List.mem_cons_of_mem _ hy)
theorem fidx_some (id : Int) : ∀ (L : List Itm) (k : Nat), (∃ x ∈ L, x.id = id) → ∃ j x, fidx id L k = ((k + j : Nat) : Int) ∧ L[j]? = some x ∧ x.id = id
  | [], _, h => by obtain ⟨x, hx, _⟩ := h; cases hx
  | x :: r, k, h => by
    by_cases hx : x.id = id
    · exact ⟨0, x, by rw [fidx, if_pos hx]; rfl, rfl, hx⟩
    · obtain ⟨y, hy, e⟩ := h
      have : ∃ y ∈ r, y.id = id := by
        rcases List.mem_cons.1 hy with rfl | hy
        · exact absurd e hx
        · exact ⟨y, hy, e⟩
      obtain ⟨j, z, h1, h2, h3⟩ := fidx_some id r (k + 1) this
      refine ⟨j + 1, z, ?_, by simpa using h2, h3⟩
      rw [fidx, if_neg hx, h1]
      congr 1
      omega
theorem fidx_cases (id : Int) (L : List Itm) : (fidx id L 0 = -1 ∧ ∀ x ∈ L, x.id ≠ id) ∨ ∃ (j : Nat) (x : Itm), fidx id L 0 = j ∧ L[j]? = some x ∧ x.id = id := by
  by_cases h : ∃ x ∈ L, x.id = id
  · obtain ⟨j, x, h1, h2, h3⟩ := fidx_some id L 0 h
    exact .inr ⟨j, x, by simpa using h1, h2, h3⟩
  · have h' : ∀ x ∈ L, x.id ≠ id := fun x hx e => h ⟨x, hx, e⟩
    exact .inl ⟨fidx_none id L 0 h', h'⟩

/-- What is amiss with a Put (of one that may be): an error's number. -/
def putI (L : List Itm) (x : Itm) : Nat := if 0 ≤ fidx x.id L 0 then 108 else roomI L x.own
theorem put_no (L : List Itm) (x : Itm) : ErrNo (putI L x) := by
  unfold putI
  split
  · exact .inr (by omega)
  · exact room_no L x.own
set_option maxRecDepth 100000 in
set_option maxHeartbeats 3200000 in
theorem qput_bad {base B : Nat} {w : World} {lv : Value} {L : List Itm} {nx : Int} (pa : Nat → Addr) (hS : Sent17 w pa) (h : QAt base w B lv L nx) (hl : L.length ≤ 1000000) (x : Itm) (hm : putI L x ≠ 0) :
    Calls Tryd.prog 18 #[.pointer (some ⟨B, 0, none⟩), .agg #[.int .i64 x.id, .int .i64 x.own, .int .i64 x.wk]] w fun e w' => e = .returned (errV pa (putI L x)) ∧ Fr (fun _ => False) w w' := by
  have hfa := (Fr.refl (fun _ => False) w).alloc (.cells #[.int .i64 x.id, .int .i64 x.own, .int .i64 x.wk] 31)
  have hrow := heap_alloc_new w (.cells #[.int .i64 x.id, .int .i64 x.own, .int .i64 x.wk] 31)
  have hw1 : ¬ x.wk < -1 := by have := x.hw; omega
  have hi1 : ¬ x.id < 1 := by have := x.h1; omega
  have hi2 : ¬ 1073741824 < x.id := by have := x.h2; omega
  have HF := hid hfa; have HR := hid hrow; have HL := hid hl; have HM := hid hm
  have HQ := hid (h.fr hfa); have HS := hid (hS.frame hfa)
  clear hfa hrow hl hS h hm
  go_enter Tryd.func18, Tryd.ntmps18
  go_upto_region 3 with fail
  generalize w.alloc (.cells #[.int .i64 x.id, .int .i64 x.own, .int .i64 x.wk] 31) = w1 at *
  have x0 : w1.cell? ⟨w.heap.size, 0, none⟩ = some (.int .i64 x.id) := by rw [cell_of_row _ _ _ _ _ _ HR.out]; rfl
  go_wp2_with fail
  refine (qfind_any HQ.out HL.out x.id).mono ?_
  rintro e w2 ⟨rfl, hf2⟩
  have HF2 := hid (HF.out.trans' hf2); have HQ2 := hid (HQ.out.fr hf2); have HS2 := hid (HS.out.frame hf2); have hr2 := hf2.heap HR.out not_false
  have x1 : w2.cell? ⟨w.heap.size, 1, none⟩ = some (.int .i64 x.own) := by rw [cell_of_row _ _ _ _ _ _ hr2]; rfl
  clear hf2 hr2 x0
  by_cases h1 : 0 ≤ fidx x.id L 0
  · have g7 : w2.cell? ⟨2, 0, none⟩ = some (.iface 124 (.pointer (some (pa 7)))) := HS2.out.s 7 (by decide)
    have hr : errV pa (putI L x) = .iface 124 (.pointer (some (pa 7))) := by unfold putI; rw [if_pos h1]; rfl
    have HR := hid hr
    clear hr
    go_wp2_with fail
    go_ret
    exact ⟨by rw [HR.out]; rfl, HF2.out⟩
  · have hp : putI L x = roomI L x.own := by unfold putI; rw [if_neg h1]
    have HP := hid hp
    clear hp
    go_wp2_with fail
    refine (room_any pa HS2.out.three HQ2.out HL.out x.own).mono ?_
    rintro e w3 ⟨rfl, hf3⟩
    have hm2 := HM.out
    rw [HP.out] at hm2
    obtain ⟨p, hp⟩ : ∃ p, errV pa (roomI L x.own) = .iface 124 (.pointer (some p)) := ⟨_, by unfold errV; rw [if_neg hm2]⟩
    have HE := hid hp
    rw [hp]
    have HF3 := hid (HF2.out.trans' hf3)
    clear hm2 hp hf3 x1
    go_wp2_with fail
    go_ret
    exact ⟨by rw [HP.out, HE.out]; rfl, HF3.out⟩
set_option maxRecDepth 100000 in
set_option maxHeartbeats 3200000 in
theorem qput_good {base B : Nat} {w : World} {lv : Value} {L : List Itm} {nx : Int} (pa : Nat → Addr) (hS : Sent17 w pa) (h : QAt base w B lv L nx) (hl : L.length ≤ 1000000) (x : Itm) (hm : putI L x = 0) (hb : base ≤ w.heap.size) (hn1 : 0 ≤ nx) (hn2 : nx ≤ 1099511627776) :
    Calls Tryd.prog 18 #[.pointer (some ⟨B, 0, none⟩), .agg #[.int .i64 x.id, .int .i64 x.own, .int .i64 x.wk]] w fun e w' => e = .returned .nilIface ∧ ∃ lv', QAt base w' B lv' (L ++ [x]) (max nx (x.id + 1)) ∧ Fr (QS B lv) w w' ∧ (∀ k, lv'.ownBlock = some k → lv.ownBlock = some k ∨ w.heap.size ≤ k) := by
  have hfa := (Fr.refl (fun _ => False) w).alloc (.cells #[.int .i64 x.id, .int .i64 x.own, .int .i64 x.wk] 31)
  have hrow := heap_alloc_new w (.cells #[.int .i64 x.id, .int .i64 x.own, .int .i64 x.wk] 31)
  have hw1 : ¬ x.wk < -1 := by have := x.hw; omega
  have hi1 : ¬ x.id < 1 := by have := x.h1; omega
  have hi2 : ¬ 1073741824 < x.id := by have := x.h2; omega
  have hfi : ¬ 0 ≤ fidx x.id L 0 := fun h0 => by unfold putI at hm; rw [if_pos h0] at hm; omega
  have he : errV pa (roomI L x.own) = .nilIface := by
    unfold putI at hm
    rw [if_neg hfi] at hm
    rw [hm]
    simp [errV]
  have HF := hid hfa; have HR := hid hrow; have HL := hid hl; have HE := hid he; have HB := hid hb
  have HQ := hid (h.fr hfa); have HS := hid (hS.frame hfa)
  have hlt0 := h.lt
  have HLT := hid hlt0
  clear hfa hrow hl hS h hm he hb hlt0
  go_enter Tryd.func18, Tryd.ntmps18
  go_upto_region 3 with fail
  generalize w.alloc (.cells #[.int .i64 x.id, .int .i64 x.own, .int .i64 x.wk] 31) = w1 at *
  have x0 : w1.cell? ⟨w.heap.size, 0, none⟩ = some (.int .i64 x.id) := by rw [cell_of_row _ _ _ _ _ _ HR.out]; rfl
  go_wp2_with fail
  refine (qfind_any HQ.out HL.out x.id).mono ?_
  rintro e w2 ⟨rfl, hf2⟩
  have HF2 := hid (HF.out.trans' hf2); have HQ2 := hid (HQ.out.fr hf2); have HS2 := hid (HS.out.frame hf2); have hr2 := hf2.heap HR.out not_false
  have x1 : w2.cell? ⟨w.heap.size, 1, none⟩ = some (.int .i64 x.own) := by rw [cell_of_row _ _ _ _ _ _ hr2]; rfl
  have HR2 := hid hr2
  clear hf2 hr2 x0
  go_wp2_with fail
  refine (room_any pa HS2.out.three HQ2.out HL.out x.own).mono ?_
  rintro e w3 ⟨rfl, hf3⟩
  rw [HE.out]
  have hr3 := hf3.heap HR2.out not_false
  have y0 : w3.cell? ⟨w.heap.size, 0, none⟩ = some (.int .i64 x.id) := by rw [cell_of_row _ _ _ _ _ _ hr3]; rfl
  have y1 : w3.cell? ⟨w.heap.size, 1, none⟩ = some (.int .i64 x.own) := by rw [cell_of_row _ _ _ _ _ _ hr3]; rfl
  have y2 : w3.cell? ⟨w.heap.size, 2, none⟩ = some (.int .i64 x.wk) := by rw [cell_of_row _ _ _ _ _ _ hr3]; rfl
  have hQ3 := HQ2.out.fr hf3
  have HF3 := hid (HF2.out.trans' hf3); have HQ3 := hid hQ3; have HR3 := hid hr3
  have hb3 : base ≤ w3.heap.size := by have := HF3.out.size; have := HB.out; omega
  obtain ⟨c0, c1, cz⟩ := hQ3.cells
  have HB3 := hid hb3
  clear hf3 hr3 hQ3 hb3 x1
  go_upto_region 8 with fail
  refine wp_region_ord [(0, 0), (1, 0), (2, 0), (3, 0), (4, 0), (5, 0), (6, 1), (7, 1), (8, 1), (9, 1), (10, 1)] (fun w' => w'.cell? ⟨B, 0, none⟩ = some lv ∧ w'.cell? ⟨w.heap.size, 0, none⟩ = some (.int .i64 x.id) ∧ w'.cell? ⟨w.heap.size, 1, none⟩ = some (.int .i64 x.own) ∧ w'.cell? ⟨w.heap.size, 2, none⟩ = some (.int .i64 x.wk)) (by kernel_rfl) (by kernel_rfl) (by kernel_rfl) rfl (fun _ _ d _ _ h => by cases d <;> exact h) ⟨c0, y0, y1, y2⟩ ?_
  iterate 6 (refine wpO_take ?_ rfl (by kernel_rfl) ?_ ?_; rotate_left; (· intro w' hS; obtain ⟨hS1, hS2, hS3, hS4⟩ := hS; go_simp; try with_reducible rfl); (try simp only [Act.put, List.setIfInBounds_toArray, List.set_cons_zero, List.set_cons_succ]))
  have hfa := (Fr.refl (fun _ => False) w3).drew.alloc (.cells #[.int .i64 x.id, .int .i64 x.own, .int .i64 x.wk] 31)
  have hcn := cells_newR w3.drew #[.int .i64 x.id, .int .i64 x.own, .int .i64 x.wk] 31 (0, 0)
  have hQa := HQ3.out.fr hfa
  have hba : base ≤ (w3.drew.alloc (.cells #[.int .i64 x.id, .int .i64 x.own, .int .i64 x.wk] 31)).heap.size := by have := HB3.out; have := hfa.size; omega
  refine wpO_run rfl (by kernel_rfl) (fun K hK => ?_)
  go_simp
  refine hK _ _ (fun _ => ⟨hfa.cell c0 not_false, hfa.cell y0 not_false, hfa.cell y1 not_false, hfa.cell y2 not_false⟩) ?_
  clear hK K
  try simp only [Act.put, List.setIfInBounds_toArray, List.set_cons_zero, List.set_cons_succ]
  refine wpO_run rfl (by kernel_rfl) (fun K hK => ?_)
  refine wp_appendR (.tmp 37) (.tmp 39) 60 rfl 31 (.agg #[.int .i64 0, .int .i64 0, .int .i64 0]) 3 24 Tryd.underlying60 Tryd.info_item rfl (by decide) lv rfl base L.length (itsV L) hQa.own w3.drew.heap.size 1 [.int .i64 x.id, .int .i64 x.own, .int .i64 x.wk] rfl rfl hcn (by intro y hy; simp at hy; rcases hy with rfl | rfl | rfl <;> rfl) (by have := HL.out; omega) (by decide) hba ?_
  intro g cap w4 ho4 hf4 hg4
  have hwq : ∀ k, lv.ownBlock = some k → k ≠ w.heap.size := fun k hk e => by have := (HLT.out k (.inr hk.symm)).2; omega
  have hr4 := hf4.heap (hfa.heap HR3.out not_false) (fun e => hwq _ e.symm rfl)
  have z0 : w4.cell? ⟨w.heap.size, 0, none⟩ = some (.int .i64 x.id) := by rw [cell_of_row _ _ _ _ _ _ hr4]; rfl
  have z1 : w4.cell? ⟨w.heap.size, 1, none⟩ = some (.int .i64 x.own) := by rw [cell_of_row _ _ _ _ _ _ hr4]; rfl
  have z2 : w4.cell? ⟨w.heap.size, 2, none⟩ = some (.int .i64 x.wk) := by rw [cell_of_row _ _ _ _ _ _ hr4]; rfl
  have hB4 := hf4.heap hQa.heap (fun e => hQa.neB B e.symm rfl)
  have d0 : w4.cell? ⟨B, 0, none⟩ = some lv := by rw [cell_of_row _ _ _ _ _ _ hB4]; rfl
  have f0 : w4.frozen? ⟨B, 0, none⟩ = false := frozen_of_row _ _ _ _ _ hB4
  refine hK _ _ (fun _ => ⟨d0, z0, z1, z2⟩) ?_
  clear hK K
  try simp only [Act.put, List.setIfInBounds_toArray, List.set_cons_zero, List.set_cons_succ]
  have ho5 : w4.ownsRow base 31 3 (.slice (some ⟨g, 0, none⟩) (L.length + 1) cap) (L ++ [x]).length (itsV (L ++ [x])) := by
    rw [itsV_app, List.length_append]
    exact ho4
  have hBne : w.heap.size ≠ B := by have := (HLT.out B (.inl rfl)).2; omega
  have hQ5 := QAt.setL hB4 HQ3.out.le ho5
  have hF5 : Fr (QS B lv) w (w4.setCell ⟨B, 0, none⟩ (.slice (some ⟨g, 0, none⟩) (L.length + 1) cap)) := ((HF3.out.trans' hfa).trans hf4 (U := QS B lv) (fun _ _ h => h.elim) (fun _ _ h => .inr h)).setCell (p := ⟨B, 0, none⟩) (.inl (.inl rfl)) _
  have z0' := ((Fr.refl (fun k => k = B) w4).setCell (p := ⟨B, 0, none⟩) (.inl rfl) (.slice (some ⟨g, 0, none⟩) (L.length + 1) cap)).cell z0 hBne
  have hbk : ∀ k, (Value.slice (some ⟨g, 0, none⟩) (L.length + 1) cap).ownBlock = some k → lv.ownBlock = some k ∨ w.heap.size ≤ k := fun k hk => by
    obtain rfl : g = k := by simpa [Value.ownBlock] using hk
    rcases hg4 with h | h
    · exact .inl h
    · have h1 := HF3.out.size
      have h2 : w3.heap.size ≤ (w3.drew.alloc (.cells #[.int .i64 x.id, .int .i64 x.own, .int .i64 x.wk] 31)).heap.size := hfa.size
      exact .inr (Nat.le_trans h1 (Nat.le_trans h2 h))
  have HQ5 := hid hQ5; have HF5 := hid hF5; have HBK := hid hbk
  clear ho4 hf4 hg4 hB4 ho5 hQ5 hF5 hbk hfa hcn hQa hba c0 c1 cz y0 y1 y2 z0 z1 z2 hr4 hwq
  refine wpO_run rfl (by kernel_rfl) (fun K hK => ?_)
  go_simp
  refine hK _ _ (last_skip (by kernel_rfl)) ?_
  clear hK K
  try simp only [Act.put, List.setIfInBounds_toArray, List.set_cons_zero, List.set_cons_succ]
  refine wpO_run rfl (by kernel_rfl) (fun K hK => ?_)
  go_simp
  refine hK _ _ (last_skip (by kernel_rfl)) ?_
  clear hK K
  try simp only [Act.put, List.setIfInBounds_toArray, List.set_cons_zero, List.set_cons_succ]
  refine wpO_run rfl (by kernel_rfl) (fun K hK => ?_)
  go_simp
  refine hK _ _ (last_skip (by kernel_rfl)) ?_
  clear hK K
  try simp only [Act.put, List.setIfInBounds_toArray, List.set_cons_zero, List.set_cons_succ]
  refine wpO_end ?_
  generalize w4.setCell ⟨B, 0, none⟩ (.slice (some ⟨g, 0, none⟩) (L.length + 1) cap) = w5 at *
  obtain ⟨e0, e1, ez⟩ := HQ5.out.cells
  have hwr : IntKind.i64.wrap (x.id + 1) = x.id + 1 := IntWalk.i64_in _ (by have := x.h1; have := x.h2; omega)
  have e1f := ez 1
  go_upto_region 9 with fail
  clear hwr
  have hQ6 := (HQ5.out.setN (max nx (x.id + 1)))
  have hF6 := HF5.out.setCell (p := ⟨B, 1, none⟩) (.inl (.inl rfl)) (.int .i64 (max nx (x.id + 1)))
  have HQ6 := hid hQ6; have HF6 := hid hF6
  clear hQ6 hF6
  go_still_tail 11, (by kernel_rfl)
  change wpList _ _ _ _ _ w5.drew
  go_wp2_with fail
  go_ret
  exact ⟨rfl, _, HQ6.out.fr (Fr.refl _ _).drew, HF6.out.drew, HBK.out⟩
end Go.Proofs.YtdcfidefkoamnaaDoor
