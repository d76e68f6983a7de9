/- inglenookref.SameValue with the empty value; inglenookworld.Nodes. -/
import Derived.Test.YteihmagldhmjgaaDoorTreeE
import Derived.Test.YteihmagldhmjgaaDoorSee0
namespace Go.Proofs.YteihmagldhmjgaaDoor
open Go.RowKit

theorem svs_none (a : Option Addr) (n c : Nat) (hn : n ≤ 9223372036854775807) (w : World) : Calls Tryd.prog 65 #[.slice a n c, .slice none 0 0] w fun e w' => e = .returned (.bool (decide (n = 0))) ∧ w = w' := by
  by_cases h : n = 0
  · subst h
    go_enter Tryd.func65, Tryd.ntmps65
    go_wp2
    go_loop [5] (fun i => i = .int .i64 0) (fun _ => 0)
    case atStart => rfl
    case round =>
      subst hrel
      go_wp2
      go_ret
      exact ⟨rfl, rfl⟩
  · have hq : ((n : Int) != 0) = true := by simp; omega
    have HR := hid (show decide (n = 0) = false from decide_eq_false h)
    generalize decide (n = 0) = r at *
    clear h
    go_enter Tryd.func65, Tryd.ntmps65
    go_wp2
    go_ret
    exact ⟨ret_bool HR.out.symm, rfl⟩
set_option maxHeartbeats 1600000 in
theorem sv_none (k n : Int) (s : ByteArray) (a : Option Addr) (m c : Nat) (hm : m ≤ 9223372036854775807) (w : World) : Calls Tryd.prog 46 #[.agg #[.int .i64 k, .int .i64 n, .string s, .slice a m c], .agg #[.int .i64 0, .int .i64 0, .string ⟨#[]⟩, .slice none 0 0]] w fun e w' => e = .returned (.bool (k == 0 && n == 0 && s.toList.isEmpty && decide (m = 0))) ∧ Fr (fun _ => False) w w' := by
  have HC := hid (fun w => svs_none a m c hm w)
  obtain ⟨r, hr⟩ : ∃ r, (k == 0 && n == 0 && s.toList.isEmpty && decide (m = 0)) = r := ⟨_, rfl⟩
  rw [hr]
  have HR := hid hr
  clear hr hm
  generalize decide (m = 0) = b at *
  have hF : Fr (fun _ => False) w ((w.alloc (.cells #[.int .i64 k, .int .i64 n, .string s, .slice a m c] 26)).alloc (.cells #[.int .i64 0, .int .i64 0, .string ⟨#[]⟩, .slice none 0 0] 26)) := ((Fr.refl _ _).alloc _).alloc _
  have hb2 : ((w.alloc (.cells #[.int .i64 k, .int .i64 n, .string s, .slice a m c] 26)).alloc (.cells #[.int .i64 0, .int .i64 0, .string ⟨#[]⟩, .slice none 0 0] 26)).heap[w.heap.size]? = some (.cells #[.int .i64 k, .int .i64 n, .string s, .slice a m c] 26) := ((Fr.refl (fun _ => False) _).alloc _).heap (heap_alloc_new w _) not_false
  have hb3 : ((w.alloc (.cells #[.int .i64 k, .int .i64 n, .string s, .slice a m c] 26)).alloc (.cells #[.int .i64 0, .int .i64 0, .string ⟨#[]⟩, .slice none 0 0] 26)).heap[w.heap.size + 1]? = some (.cells #[.int .i64 0, .int .i64 0, .string ⟨#[]⟩, .slice none 0 0] 26) := by
    have := heap_alloc_new (w.alloc (.cells #[.int .i64 k, .int .i64 n, .string s, .slice a m c] 26)) (.cells #[.int .i64 0, .int .i64 0, .string ⟨#[]⟩, .slice none 0 0] 26)
    simpa using this
  go_enter Tryd.func46, Tryd.ntmps46
  go_upto_region 1 with fail
  generalize (w.alloc (.cells #[.int .i64 k, .int .i64 n, .string s, .slice a m c] 26)).alloc (.cells #[.int .i64 0, .int .i64 0, .string ⟨#[]⟩, .slice none 0 0] 26) = W at *
  have d0 : W.cell? ⟨w.heap.size, 0, none⟩ = some (.int .i64 k) := by rw [cell_of_row W _ 0 _ _ _ hb2]; rfl
  have d1 : W.cell? ⟨w.heap.size, 1, none⟩ = some (.int .i64 n) := by rw [cell_of_row W _ 1 _ _ _ hb2]; rfl
  have d2 : W.cell? ⟨w.heap.size, 2, none⟩ = some (.string s) := by rw [cell_of_row W _ 2 _ _ _ hb2]; rfl
  have d3 : W.cell? ⟨w.heap.size, 3, none⟩ = some (.slice a m c) := by rw [cell_of_row W _ 3 _ _ _ hb2]; rfl
  have g0 : W.cell? ⟨w.heap.size + 1, 0, none⟩ = some (.int .i64 0) := by rw [cell_of_row W _ 0 _ _ _ hb3]; rfl
  have g1 : W.cell? ⟨w.heap.size + 1, 1, none⟩ = some (.int .i64 0) := by rw [cell_of_row W _ 1 _ _ _ hb3]; rfl
  have g2 : W.cell? ⟨w.heap.size + 1, 2, none⟩ = some (.string ⟨#[]⟩) := by rw [cell_of_row W _ 2 _ _ _ hb3]; rfl
  have g3 : W.cell? ⟨w.heap.size + 1, 3, none⟩ = some (.slice none 0 0) := by rw [cell_of_row W _ 3 _ _ _ hb3]; rfl
  have HF := hid hF
  clear hF hb2 hb3
  go_wp2_with fail
  refine (HC.out W).mono ?_
  rintro e w2 ⟨rfl, rfl⟩
  cases b
  · have HX := hid (show r = false by rw [← HR.out, Bool.and_false])
    go_wp2_with fail
    go_ret
    exact ⟨ret_bool HX.out.symm, HF.out⟩
  cases hk : (k == 0)
  · have HX := hid (show r = false by rw [← HR.out, hk]; rfl)
    go_wp2_with fail
    go_ret
    exact ⟨ret_bool HX.out.symm, HF.out⟩
  cases hn : (n == 0)
  · have HX := hid (show r = false by rw [← HR.out, hk, hn]; rfl)
    go_wp2_with fail
    go_ret
    exact ⟨ret_bool HX.out.symm, HF.out⟩
  have HX := hid (show r = s.toList.isEmpty by rw [← HR.out, hk, hn]; simp)
  go_wp2_with fail
  go_ret
  exact ⟨ret_bool HX.out.symm, HF.out⟩
theorem noV_eq (v : V) : noV v = (v.k == 0 && v.n == 0 && v.s.toList.isEmpty && decide (v.l.length = 0)) := rfl
end Go.Proofs.YteihmagldhmjgaaDoor
