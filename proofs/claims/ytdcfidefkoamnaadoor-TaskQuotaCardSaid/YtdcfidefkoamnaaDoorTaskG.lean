/- Package task: Due, Take; the chapter's example. -/
import Derived.Test.YtdcfidefkoamnaaDoorTaskF
namespace Go.Proofs.YtdcfidefkoamnaaDoor
open Go.RowKit Go.Sort

theorem results_cell_tmp {P : Program} {fn : Func} {p q : Tmp} {ty : TypeId} (h : fn.results = #[.cell p ty, .tmp q]) (tmps : Array Value) (w : World) (g : Nat) (t : TypeId) (cs : Array Value) (fr : Nat × Nat) (d : TypeDesc)
    (hp : tmps.getD p undef = .pointer (some ⟨g, 0, none⟩)) (hg : w.heap[g]? = some (.cells cs t fr))
    (hu : P.underlying ty = some d) (hd : (match d with | .struct _ | .array _ _ => true | _ => false) = true) (hi : (P.info? ty).map (·.size) = some cs.size) :
    (results fn tmps).run P w = .ok (.tuple #[.agg cs, tmps.getD q undef]) w := by
  have hp' : tmps[p]?.getD undef = .pointer (some ⟨g, 0, none⟩) := by simpa using hp
  simp [results, h, hp', asAddr, run_loadVar_row w g t ty cs fr d hg hu hd hi]

set_option maxRecDepth 100000 in
set_option maxHeartbeats 1600000 in
theorem qdue_no {base B : Nat} {w : World} {lv : Value} {L : List Itm} {nx : Int} (h : QAt base w B lv L nx) (hl : L.length ≤ 1000000) (now : Int) (hno : ∀ x, First L x → x.wk = -1 ∨ now < x.wk) :
    Calls Tryd.prog 16 #[.pointer (some ⟨B, 0, none⟩), .int .i64 now] w fun e w' => e = .returned (.tuple #[.agg #[.int .i64 0, .int .i64 0, .int .i64 0], .bool false]) ∧ Fr (fun _ => False) w w' := by
  have hfa := (Fr.refl (fun _ => False) w).alloc (.cells #[.int .i64 0, .int .i64 0, .int .i64 0] 31)
  have hrow := heap_alloc_new w (.cells #[.int .i64 0, .int .i64 0, .int .i64 0] 31)
  have hA := qall_any (h.fr hfa) hl
  have HA := hid hA; have HF := hid hfa; have HR := hid hrow; have HN := hid hno
  clear hA hfa hrow hno h hl
  go_enter Tryd.func16, Tryd.ntmps16
  go_wp2_with fail
  refine HA.out.mono ?_
  rintro e w2 ⟨v', d, rfl, ⟨a, c, rfl, h1, h2, h3, h4⟩, hdl, hdf, hf2⟩
  have hr2 := hf2.heap HR.out not_false
  have HF2 := hid (HF.out.trans' hf2)
  have z0 : w2.cell? ⟨w.heap.size, 0, none⟩ = some (.int .i64 0) := by rw [cell_of_row _ _ _ _ _ _ hr2]; rfl
  have z1 : w2.cell? ⟨w.heap.size, 1, none⟩ = some (.int .i64 0) := by rw [cell_of_row _ _ _ _ _ _ hr2]; rfl
  have z2 : w2.cell? ⟨w.heap.size, 2, none⟩ = some (.int .i64 0) := by rw [cell_of_row _ _ _ _ _ _ hr2]; rfl
  have zf : ∀ i, w2.frozen? ⟨w.heap.size, i, none⟩ = false := fun i => frozen_of_row _ _ _ _ _ hr2
  have hR := (setCell_row 2 (.int .i64 0) (setCell_row 1 (.int .i64 0) (setCell_row 0 (.int .i64 0) hr2)))
  simp only [List.setIfInBounds_toArray, List.set_cons_zero, List.set_cons_succ] at hR
  have hf5 : Fr (fun q => q = w.heap.size) w2 (((w2.setCell ⟨w.heap.size, 0, none⟩ (.int .i64 0)).setCell ⟨w.heap.size, 1, none⟩ (.int .i64 0)).setCell ⟨w.heap.size, 2, none⟩ (.int .i64 0)) := (((Fr.refl (fun q => q = w.heap.size) w2).setCell (p := ⟨w.heap.size, 0, none⟩) (.inl rfl) (.int .i64 0)).setCell (p := ⟨w.heap.size, 1, none⟩) (.inl rfl) (.int .i64 0)).setCell (p := ⟨w.heap.size, 2, none⟩) (.inl rfl) (.int .i64 0)
  have hF5 := HF2.out.trans hf5 (U := fun _ => False) (fun _ _ h => h) (fun q hq e => by omega)
  have HRR := hid hR; have HF5 := hid hF5; have HDF := hid hdf
  clear hf2 hr2 hR hf5 hF5 hdl hdf h1 h2 h3
  cases hd : d with
  | nil =>
    subst hd
    clear h4
    go_wp2_with fail
    refine bodyPost_ret (results_cell_tmp rfl _ _ w.heap.size _ _ _ _ rfl HRR.out Tryd.underlying31 rfl (by kernel_rfl)) rfl ?_
    exact ⟨rfl, HF5.out⟩
  | cons x r =>
    obtain ⟨b, o, rfl, -, hc⟩ := h4 0 x (by rw [hd]; rfl)
    have y2 := hc 2 (.int .i64 x.wk) rfl
    rw [Nat.zero_mul, Nat.add_zero] at y2
    have hlen : (d.length == 0) = false := by rw [hd]; simp
    have hpos : 0 < d.length := by rw [hd]; simp
    have hlI : (0 : Int) < d.length := by omega
    have hfx := HDF.out x (by rw [hd]; rfl)
    have hwk := HN.out x hfx
    have HWK := hid hwk
    clear h4 hd hc hfx hwk
    have hl0 : ((d.length : Int) == 0) = false := by rw [beq_eq_false_iff_ne]; omega
    generalize d.length = dl at *
    by_cases hm : x.wk = -1
    · have hm' : (x.wk == -1) = true := by simpa using hm
      clear hm
      go_wp2_with fail
      refine bodyPost_ret (results_cell_tmp rfl _ _ w.heap.size _ _ _ _ rfl HRR.out Tryd.underlying31 rfl (by kernel_rfl)) rfl ?_
      exact ⟨rfl, HF5.out⟩
    · have hm' : (x.wk == -1) = false := by simpa using hm
      have hgt : now < x.wk := by
        rcases HWK.out with h | h
        · exact absurd h hm
        · exact h
      clear hm
      go_wp2_with fail
      refine bodyPost_ret (results_cell_tmp rfl _ _ w.heap.size _ _ _ _ rfl HRR.out Tryd.underlying31 rfl (by kernel_rfl)) rfl ?_
      exact ⟨rfl, HF5.out⟩

set_option maxRecDepth 100000 in
set_option maxHeartbeats 1600000 in
theorem qdue_yes {base B : Nat} {w : World} {lv : Value} {L : List Itm} {nx : Int} (h : QAt base w B lv L nx) (hl : L.length ≤ 1000000) (now : Int) (x : Itm) (hx : First L x) (hU : Uniq L) (hw1 : x.wk ≠ -1) (hw2 : x.wk ≤ now) :
    Calls Tryd.prog 16 #[.pointer (some ⟨B, 0, none⟩), .int .i64 now] w fun e w' => e = .returned (.tuple #[.agg #[.int .i64 x.id, .int .i64 x.own, .int .i64 x.wk], .bool true]) ∧ Fr (fun _ => False) w w' := by
  have hfa := (Fr.refl (fun _ => False) w).alloc (.cells #[.int .i64 0, .int .i64 0, .int .i64 0] 31)
  have hrow := heap_alloc_new w (.cells #[.int .i64 0, .int .i64 0, .int .i64 0] 31)
  have hA := qall_any (h.fr hfa) hl
  have hlp : 0 < L.length := by
    cases L with
    | nil => have := hx.1; cases this
    | cons _ _ => simp
  have HA := hid hA; have HF := hid hfa; have HR := hid hrow; have HX := hid hx; have HU := hid hU; have HLP := hid hlp
  clear hA hfa hrow hx hU h hl hlp
  go_enter Tryd.func16, Tryd.ntmps16
  go_wp2_with fail
  refine HA.out.mono ?_
  rintro e w2 ⟨v', d, rfl, ⟨a, c, rfl, h1, h2, h3, h4⟩, hdl, hdf, hf2⟩
  have hr2 := hf2.heap HR.out not_false
  have HF2 := hid (HF.out.trans' hf2)
  have z0 : w2.cell? ⟨w.heap.size, 0, none⟩ = some (.int .i64 0) := by rw [cell_of_row _ _ _ _ _ _ hr2]; rfl
  have z1 : w2.cell? ⟨w.heap.size, 1, none⟩ = some (.int .i64 0) := by rw [cell_of_row _ _ _ _ _ _ hr2]; rfl
  have z2 : w2.cell? ⟨w.heap.size, 2, none⟩ = some (.int .i64 0) := by rw [cell_of_row _ _ _ _ _ _ hr2]; rfl
  have zf : ∀ i, w2.frozen? ⟨w.heap.size, i, none⟩ = false := fun i => frozen_of_row _ _ _ _ _ hr2
  have hR := (setCell_row 2 (.int .i64 x.wk) (setCell_row 1 (.int .i64 x.own) (setCell_row 0 (.int .i64 x.id) hr2)))
  simp only [List.setIfInBounds_toArray, List.set_cons_zero, List.set_cons_succ] at hR
  have hf5 : Fr (fun q => q = w.heap.size) w2 (((w2.setCell ⟨w.heap.size, 0, none⟩ (.int .i64 x.id)).setCell ⟨w.heap.size, 1, none⟩ (.int .i64 x.own)).setCell ⟨w.heap.size, 2, none⟩ (.int .i64 x.wk)) := (((Fr.refl (fun q => q = w.heap.size) w2).setCell (p := ⟨w.heap.size, 0, none⟩) (.inl rfl) (.int .i64 x.id)).setCell (p := ⟨w.heap.size, 1, none⟩) (.inl rfl) (.int .i64 x.own)).setCell (p := ⟨w.heap.size, 2, none⟩) (.inl rfl) (.int .i64 x.wk)
  have hF5 := HF2.out.trans hf5 (U := fun _ => False) (fun _ _ h => h) (fun q hq e => by omega)
  have hdp : 0 < d.length := by have := HLP.out; omega
  obtain ⟨y, hy⟩ : ∃ y, d[0]? = some y := ⟨_, List.getElem?_eq_getElem hdp⟩
  obtain rfl : x = y := First.eq HU.out HX.out (hdf y hy)
  obtain ⟨b, o, rfl, -, hc⟩ := h4 0 x hy
  have y0 := hc 0 (.int .i64 x.id) rfl
  have y1 := hc 1 (.int .i64 x.own) rfl
  have y2 := hc 2 (.int .i64 x.wk) rfl
  simp only [Nat.zero_mul, Nat.add_zero] at y0 y1 y2
  have hl0 : ((d.length : Int) == 0) = false := by rw [beq_eq_false_iff_ne]; omega
  have hm' : (x.wk == -1) = false := by simpa using hw1
  have hng : ¬ now < x.wk := by omega
  have HRR := hid hR; have HF5 := hid hF5
  clear hf2 hr2 hR hf5 hF5 hdl hdf h1 h2 h3 h4 hc hy hw1
  generalize d.length = dl at *
  go_wp2_with fail
  refine bodyPost_ret (results_cell_tmp rfl _ _ w.heap.size _ _ _ _ rfl HRR.out Tryd.underlying31 rfl (by kernel_rfl)) rfl ?_
  exact ⟨rfl, HF5.out⟩
end Go.Proofs.YtdcfidefkoamnaaDoor
