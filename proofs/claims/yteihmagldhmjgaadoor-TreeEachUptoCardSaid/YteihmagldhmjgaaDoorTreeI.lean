/- Package tree: Expr. -/
import Derived.Test.YteihmagldhmjgaaDoorTreeH
namespace Go.Proofs.YteihmagldhmjgaaDoor
open Go.RowKit

set_option maxRecDepth 100000 in
set_option maxHeartbeats 1600000 in
theorem texpr_any (pa : Nat → Addr) (x : Nd) (hz : x.sz ≤ 1099511627776) (D : Nat → Prop) (w : World) (u : Array Value) (h : NIn D w x u) (hE : Sent17 w pa) (hg : 7 ≤ w.heap.size) :
    Calls Tryd.prog 17 #[.agg u] w fun e w' => ∃ v, e = .returned v ∧ Fr (fun _ => False) w w' ∧ ErrIs pa w' (pValid [x] 0) v := by
  obtain ⟨va', la', rfl, ⟨va, vc, us1, rfl, -⟩, ⟨la, lc, us, rfl, -⟩⟩ := h.open
  have hf1 := (Fr.refl (fun _ => False) w).alloc (.cells #[.int .i64 x.op, .int .i64 x.ln, .string x.s, .int .i64 x.v.k, .int .i64 x.v.n, .string x.v.s, .slice va x.v.l.length vc, .slice la x.l.length lc] 29)
  have hg1 := heap_alloc_new w (.cells #[.int .i64 x.op, .int .i64 x.ln, .string x.s, .int .i64 x.v.k, .int .i64 x.v.n, .string x.v.s, .slice va x.v.l.length vc, .slice la x.l.length lc] 29)
  have hf2 := hf1.alloc (.cells #[.int .i64 x.op, .int .i64 x.ln, .string x.s, .int .i64 x.v.k, .int .i64 x.v.n, .string x.v.s, .slice va x.v.l.length vc, .slice la x.l.length lc] 29)
  have hg2 := heap_alloc_new (w.alloc (.cells #[.int .i64 x.op, .int .i64 x.ln, .string x.s, .int .i64 x.v.k, .int .i64 x.v.n, .string x.v.s, .slice va x.v.l.length vc, .slice la x.l.length lc] 29)) (.cells #[.int .i64 x.op, .int .i64 x.ln, .string x.s, .int .i64 x.v.k, .int .i64 x.v.n, .string x.v.s, .slice va x.v.l.length vc, .slice la x.l.length lc] 29)
  have hnl := NL.lit1 (D := fun _ => True) hg2 trivial ((h.frame hf2 fun _ _ => not_false).mono fun _ _ _ => trivial)
  have HC := hid (valid_any pa [x] 0 (by decide) (by decide) (by simp only [szL]; omega) _ _ _ hnl (hE.frame hf2) (Nat.le_trans hg hf2.size))
  have HF2 := hid hf2
  have HG1 := hid hg1
  clear h hE hg hz hf1 hf2 hg1 hg2 hnl
  go_enter Tryd.func17, Tryd.ntmps17
  go_upto_region 1 with fail
  generalize hW1 : w.alloc (.cells #[.int .i64 x.op, .int .i64 x.ln, .string x.s, .int .i64 x.v.k, .int .i64 x.v.n, .string x.v.s, .slice va x.v.l.length vc, .slice la x.l.length lc] 29) = W1 at *
  clear hW1
  have y0 : W1.cell? ⟨w.heap.size, 0, none⟩ = some (.int .i64 x.op) := by rw [cell_of_row _ _ 0 _ _ _ HG1.out]; rfl
  have y1 : W1.cell? ⟨w.heap.size, 1, none⟩ = some (.int .i64 x.ln) := by rw [cell_of_row _ _ 1 _ _ _ HG1.out]; rfl
  have y2 : W1.cell? ⟨w.heap.size, 2, none⟩ = some (.string x.s) := by rw [cell_of_row _ _ 2 _ _ _ HG1.out]; rfl
  have y3 : W1.cell? ⟨w.heap.size, 3, none⟩ = some (.int .i64 x.v.k) := by rw [cell_of_row _ _ 3 _ _ _ HG1.out]; rfl
  have y4 : W1.cell? ⟨w.heap.size, 4, none⟩ = some (.int .i64 x.v.n) := by rw [cell_of_row _ _ 4 _ _ _ HG1.out]; rfl
  have y5 : W1.cell? ⟨w.heap.size, 5, none⟩ = some (.string x.v.s) := by rw [cell_of_row _ _ 5 _ _ _ HG1.out]; rfl
  have y6 : W1.cell? ⟨w.heap.size, 6, none⟩ = some (.slice va x.v.l.length vc) := by rw [cell_of_row _ _ 6 _ _ _ HG1.out]; rfl
  have y7 : W1.cell? ⟨w.heap.size, 7, none⟩ = some (.slice la x.l.length lc) := by rw [cell_of_row _ _ 7 _ _ _ HG1.out]; rfl
  go_wp2_with fail
  refine HC.out.mono ?_
  rintro e w2 ⟨v2, rfl, hf3, hv2⟩
  have HF3 := hid (HF2.out.trans' hf3)
  clear hf3
  go_wp2_with fail
  go_ret
  exact ⟨_, rfl, HF3.out, hv2⟩
end Go.Proofs.YteihmagldhmjgaaDoor
