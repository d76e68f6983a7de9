/- Package task: Take; the chapter's example. -/
import Derived.Test.YtdcfidefkoamnaaDoorTaskG
namespace Go.Proofs.YtdcfidefkoamnaaDoor
open Go.RowKit Go.Sort

set_option maxRecDepth 100000 in
set_option maxHeartbeats 1600000 in
theorem qtake_no {base B : Nat} {w : World} {lv : Value} {L : List Itm} {nx : Int} (h : QAt base w B lv L nx) (hl : L.length ≤ 1000000) (now : Int) (hno : ∀ x, First L x → x.wk = -1 ∨ now < x.wk) :
    Calls Tryd.prog 11 #[.pointer (some ⟨B, 0, none⟩), .int .i64 now] w fun e w' => e = .returned (.tuple #[.agg #[.int .i64 0, .int .i64 0, .int .i64 0], .bool false]) ∧ Fr (fun _ => False) w w' := by
  have hfa := (Fr.refl (fun _ => False) w).alloc (.cells #[.int .i64 0, .int .i64 0, .int .i64 0] 31)
  have hrow := heap_alloc_new w (.cells #[.int .i64 0, .int .i64 0, .int .i64 0] 31)
  have hA := qdue_no (h.fr hfa) hl now hno
  have HA := hid hA; have HF := hid hfa; have HR := hid hrow
  clear hA hfa hrow hno h hl
  go_enter Tryd.func11, Tryd.ntmps11
  go_wp2_with fail
  refine HA.out.mono ?_
  rintro e w2 ⟨rfl, hf2⟩
  have hfb := hf2.alloc (.cells #[.int .i64 0, .int .i64 0, .int .i64 0] 31)
  have hr2 := hfb.heap HR.out not_false
  have HF2 := hid (HF.out.trans' hfb)
  have z0 : (w2.alloc (.cells #[.int .i64 0, .int .i64 0, .int .i64 0] 31)).cell? ⟨w.heap.size, 0, none⟩ = some (.int .i64 0) := by rw [cell_of_row _ _ _ _ _ _ hr2]; rfl
  have z1 : (w2.alloc (.cells #[.int .i64 0, .int .i64 0, .int .i64 0] 31)).cell? ⟨w.heap.size, 1, none⟩ = some (.int .i64 0) := by rw [cell_of_row _ _ _ _ _ _ hr2]; rfl
  have z2 : (w2.alloc (.cells #[.int .i64 0, .int .i64 0, .int .i64 0] 31)).cell? ⟨w.heap.size, 2, none⟩ = some (.int .i64 0) := by rw [cell_of_row _ _ _ _ _ _ hr2]; rfl
  have zf : ∀ i, (w2.alloc (.cells #[.int .i64 0, .int .i64 0, .int .i64 0] 31)).frozen? ⟨w.heap.size, i, none⟩ = false := fun i => frozen_of_row _ _ _ _ _ hr2
  have hR := (setCell_row 2 (.int .i64 0) (setCell_row 1 (.int .i64 0) (setCell_row 0 (.int .i64 0) hr2)))
  simp only [List.setIfInBounds_toArray, List.set_cons_zero, List.set_cons_succ] at hR
  have HRR := hid hR
  have hF5 := HF2.out.trans (((((Fr.refl (fun q => q = w.heap.size) (w2.alloc (.cells #[.int .i64 0, .int .i64 0, .int .i64 0] 31))).setCell (p := ⟨w.heap.size, 0, none⟩) (.inl rfl) (.int .i64 0)).setCell (p := ⟨w.heap.size, 1, none⟩) (.inl rfl) (.int .i64 0)).setCell (p := ⟨w.heap.size, 2, none⟩) (.inl rfl) (.int .i64 0))) (U := fun _ => False) (fun _ _ h => h) (fun q hq e => by omega)
  have HF5 := hid hF5
  clear hf2 hr2 hR hfb hF5
  go_wp2_with fail
  refine bodyPost_ret (results_cell_tmp rfl _ _ w.heap.size _ _ _ _ rfl HRR.out Tryd.underlying31 rfl (by kernel_rfl)) rfl ?_
  exact ⟨rfl, HF5.out⟩
set_option maxRecDepth 100000 in
set_option maxHeartbeats 1600000 in
theorem qtake_yes {base B : Nat} {w : World} {lv : Value} {L : List Itm} {nx : Int} (h : QAt base w B lv L nx) (hl : L.length ≤ 1000000) (now : Int) (x : Itm) (hx : First L x) (hU : Uniq L) (hw1 : x.wk ≠ -1) (hw2 : x.wk ≤ now) (k : Nat) (hk : fidx x.id L 0 = k) (hkl : k < L.length) :
    Calls Tryd.prog 11 #[.pointer (some ⟨B, 0, none⟩), .int .i64 now] w fun e w' => e = .returned (.tuple #[.agg #[.int .i64 x.id, .int .i64 x.own, .int .i64 x.wk], .bool true]) ∧ ∃ lv', QAt base w' B lv' (L.eraseIdx k) nx ∧ Fr (QS B lv) w w' ∧ lv'.ownBlock = lv.ownBlock := by
  have hfa := (Fr.refl (fun _ => False) w).alloc (.cells #[.int .i64 0, .int .i64 0, .int .i64 0] 31)
  have hrow := heap_alloc_new w (.cells #[.int .i64 0, .int .i64 0, .int .i64 0] 31)
  have hA := qdue_yes (h.fr hfa) hl now x hx hU hw1 hw2
  have hqlt := h.lt
  have HA := hid hA; have HF := hid hfa; have HR := hid hrow; have H := hid h; have HL := hid hl; have HK := hid hk; have HKL := hid hkl; have HLT := hid hqlt
  clear hA hfa hrow h hl hx hU hw1 hw2 hk hkl hqlt
  go_enter Tryd.func11, Tryd.ntmps11
  go_wp2_with fail
  refine HA.out.mono ?_
  rintro e w2 ⟨rfl, hf2⟩
  have hfb := hf2.alloc (.cells #[.int .i64 x.id, .int .i64 x.own, .int .i64 x.wk] 31)
  have hr2 := hfb.heap HR.out not_false
  have hxr := heap_alloc_new w2 (.cells #[.int .i64 x.id, .int .i64 x.own, .int .i64 x.wk] 31)
  have HF2 := hid (HF.out.trans' hfb); have HR2 := hid hr2; have HXR := hid hxr
  clear hf2 hfb hr2 hxr
  go_wp2_with fail
  refine (qkill_yes (H.out.fr HF2.out) HL.out x.id k HK.out HKL.out).mono ?_
  rintro e w3 ⟨rfl, lv3, hq3, hf3, hb3⟩
  have hs2 := HF.out.size
  have n1 : ¬ QS B lv w.heap.size := fun h => by have := (HLT.out _ h).2; omega
  have n2 : ¬ QS B lv w2.heap.size := fun h => by
    have h1 := (HLT.out _ h).2
    have h2 := HF2.out.size
    have h3 : w.heap.size ≤ w2.heap.size := by
      have := heap_lt HR2.out
      simp at this
      omega
    omega
  have hr3 := hf3.heap HR2.out n1
  have hx3 := hf3.heap HXR.out n2
  have z0 : w3.cell? ⟨w.heap.size, 0, none⟩ = some (.int .i64 0) := by rw [cell_of_row _ _ _ _ _ _ hr3]; rfl
  have z1 : w3.cell? ⟨w.heap.size, 1, none⟩ = some (.int .i64 0) := by rw [cell_of_row _ _ _ _ _ _ hr3]; rfl
  have z2 : w3.cell? ⟨w.heap.size, 2, none⟩ = some (.int .i64 0) := by rw [cell_of_row _ _ _ _ _ _ hr3]; rfl
  have zf : ∀ i, w3.frozen? ⟨w.heap.size, i, none⟩ = false := fun i => frozen_of_row _ _ _ _ _ hr3
  have x0 : w3.cell? ⟨w2.heap.size, 0, none⟩ = some (.int .i64 x.id) := by rw [cell_of_row _ _ _ _ _ _ hx3]; rfl
  have x1 : w3.cell? ⟨w2.heap.size, 1, none⟩ = some (.int .i64 x.own) := by rw [cell_of_row _ _ _ _ _ _ hx3]; rfl
  have x2 : w3.cell? ⟨w2.heap.size, 2, none⟩ = some (.int .i64 x.wk) := by rw [cell_of_row _ _ _ _ _ _ hx3]; rfl
  have hR := (setCell_row 2 (.int .i64 x.wk) (setCell_row 1 (.int .i64 x.own) (setCell_row 0 (.int .i64 x.id) hr3)))
  simp only [List.setIfInBounds_toArray, List.set_cons_zero, List.set_cons_succ] at hR
  have hf5 : Fr (fun q => q = w.heap.size) w3 (((w3.setCell ⟨w.heap.size, 0, none⟩ (.int .i64 x.id)).setCell ⟨w.heap.size, 1, none⟩ (.int .i64 x.own)).setCell ⟨w.heap.size, 2, none⟩ (.int .i64 x.wk)) := (((Fr.refl (fun q => q = w.heap.size) w3).setCell (p := ⟨w.heap.size, 0, none⟩) (.inl rfl) (.int .i64 x.id)).setCell (p := ⟨w.heap.size, 1, none⟩) (.inl rfl) (.int .i64 x.own)).setCell (p := ⟨w.heap.size, 2, none⟩) (.inl rfl) (.int .i64 x.wk)
  have hF5 := (HF2.out.trans hf3 (U := QS B lv) (fun _ _ h => h.elim) (fun _ _ h => h)).trans hf5 (U := QS B lv) (fun _ _ h => h) (fun q hq e => by omega)
  have hq5 := hq3.frame hf5 (fun e => by
    have := HLT.out B (.inl rfl)
    omega) (fun q hq e => by
    rw [hb3] at hq
    have := (HLT.out q (.inr hq.symm)).2
    omega)
  have HRR := hid hR; have HF5 := hid hF5; have HQ5 := hid hq5; have HB3 := hid hb3
  clear hr3 hx3 hR hf5 hF5 hq5 hq3 hf3 hb3 n1 n2 hs2
  go_wp2_with fail
  refine bodyPost_ret (results_cell_tmp rfl _ _ w.heap.size _ _ _ _ rfl HRR.out Tryd.underlying31 rfl (by kernel_rfl)) rfl ?_
  exact ⟨rfl, lv3, HQ5.out, HF5.out, HB3.out⟩

set_option maxRecDepth 100000 in
set_option maxHeartbeats 1600000 in
theorem first_any (pa : Nat → Addr) (w : World) (hS : S3 w pa) : Calls Tryd.prog 8 #[] w fun e w' => e = .returned (.bool true) ∧ Fr (fun _ => False) w w' := by
  have HS := hid hS
  clear hS
  go_enter Tryd.func8, Tryd.ntmps8
  go_wp2_with fail
  refine (new_any w).mono ?_
  rintro e w2 ⟨rfl, hq, hf⟩
  have HQ := hid hq; have HF := hid hf
  clear hq hf
  go_wp2_with fail
  have hz : addI [] 1 0 5 = 0 := by decide
  refine (add_good pa (HS.out.frame HF.out) (⟨1, 0, 5, by omega, by omega, by omega⟩ : Itm) HQ.out (by simp) hz HF.out.size).mono ?_
  rintro e w3 ⟨rfl, lv3, hq3, hf3, hb3⟩
  have hF3 : Fr (fun _ => False) w w3 := HF.out.trans hf3 (fun _ _ h => h) (fun q hq e => by
    have := (HQ.out.lt q e).1
    omega)
  have HQ3 := hid hq3; have HF3 := hid hF3
  clear hq3 hf3 hb3 hF3
  go_wp2_with fail
  refine (qtake_no HQ3.out (by simp) 4 (fun x hx => by
    have := hx.1
    simp at this
    subst this
    right
    simp)).mono ?_
  rintro e w4 ⟨rfl, hf4⟩
  have HQ4 := hid (HQ3.out.fr (hf4.alloc (.cells #[.int .i64 0, .int .i64 0, .int .i64 0] 31))); have HF4 := hid (HF3.out.trans' (hf4.alloc (.cells #[.int .i64 0, .int .i64 0, .int .i64 0] 31)))
  clear hf4
  go_wp2_with fail
  refine (qlen_any HQ4.out).mono ?_
  rintro e w5 ⟨rfl, rfl⟩
  go_wp2_with fail
  go_ret
  exact ⟨rfl, HF4.out⟩
end Go.Proofs.YtdcfidefkoamnaaDoor
