/- inglenookref1.Fits; val.S, val.I. -/
import Derived.Test.YtebanmigaikhhaaRefSize
import Derived.Test.YtebanmigaikhhaaRefDeep
namespace Go.Proofs.Ytebanmigaikhhaa
open Go.RowKit

set_option maxHeartbeats 1600000 in
theorem rfits_any (x : V) (hM : x.size ≤ 1099511627776) (D : Nat → Prop) (w : World) (u : Array Value) (h : VIn D w x u) :
    Calls Try.prog 21 #[.agg u] w fun e w' => ∃ n : Int, e = .returned (.int .i64 n) ∧ Fr (fun _ => False) w w' := by
  have hc1 := rdeep_any x.size x (Nat.le_refl _) hM D
  have hc2 := rsize_any x.size x (Nat.le_refl _) hM D
  obtain ⟨v, rfl, a, cap, us, rfl, -⟩ := id h.open
  have hF : Fr (fun _ => False) w (w.alloc (.cells #[.int .i64 x.k, .int .i64 x.n, .string x.s, .slice a x.l.length cap] 30)) := (Fr.refl _ _).alloc _
  have hb1 : (w.alloc (.cells #[.int .i64 x.k, .int .i64 x.n, .string x.s, .slice a x.l.length cap] 30)).heap[w.heap.size]? = some (.cells #[.int .i64 x.k, .int .i64 x.n, .string x.s, .slice a x.l.length cap] 30) := heap_alloc_new w _
  have HC1 := hid hc1; have HC2 := hid hc2; have HF := hid hF; have HH := hid h; have HB := hid hb1
  clear hc1 hc2 hF h hb1
  go_enter Try.func21, Try.ntmps21
  go_wp2_with fail
  refine (HC1.out _ _ (HH.out.frame HF.out fun _ _ => id)).mono ?_
  rintro e w2 ⟨n, rfl, -, hf2⟩
  have hb := hf2.heap HB.out not_false
  have d0 : w2.cell? ⟨w.heap.size, 0, none⟩ = some (.int .i64 x.k) := by rw [cell_of_row w2 _ 0 _ _ _ hb]; rfl
  have d1 : w2.cell? ⟨w.heap.size, 1, none⟩ = some (.int .i64 x.n) := by rw [cell_of_row w2 _ 1 _ _ _ hb]; rfl
  have d2 : w2.cell? ⟨w.heap.size, 2, none⟩ = some (.string x.s) := by rw [cell_of_row w2 _ 2 _ _ _ hb]; rfl
  have d3 : w2.cell? ⟨w.heap.size, 3, none⟩ = some (.slice a x.l.length cap) := by rw [cell_of_row w2 _ 3 _ _ _ hb]; rfl
  have HF2 := hid (HF.out.trans' hf2)
  clear hf2 hb
  by_cases hn : (40 : Int) < n
  · go_wp2
    go_ret
    exact ⟨9, rfl, HF2.out⟩
  · have hn' : decide ((40 : Int) < n) = false := by simpa using hn
    go_wp2_with fail
    refine (HC2.out _ _ (HH.out.frame HF2.out fun _ _ => id)).mono ?_
    rintro e w3 ⟨m, rfl, -, hf3⟩
    have HF3 := hid (HF2.out.trans' hf3)
    clear hf3 d0 d1 d2 d3
    by_cases hm : (4096 : Int) < m
    · go_wp2
      go_ret
      exact ⟨14, rfl, HF3.out⟩
    · have hm' : decide ((4096 : Int) < m) = false := by simpa using hm
      go_wp2
      go_ret
      exact ⟨0, rfl, HF3.out⟩

set_option maxHeartbeats 800000 in
theorem vS_any (s : ByteArray) (w : World) : Calls Try.prog 13 #[.string s] w fun e w' => e = .returned (.agg #[.int .i64 2, .int .i64 0, .string s, .slice none 0 0]) ∧ Fr (fun _ => False) w w' := by
  go_enter Try.func13, Try.ntmps13
  go_wp2
  have hR : (w.alloc (.cells #[.int .i64 2, .int .i64 0, .string s, .slice none 0 0] 30)).heap[w.heap.size]? = some (.cells #[.int .i64 2, .int .i64 0, .string s, .slice none 0 0] 30) := heap_alloc_new w _
  refine bodyPost_ret (results_cell_row rfl _ _ w.heap.size _ _ _ _ rfl hR Try.underlying30 rfl (by kernel_rfl)) rfl ?_
  exact ⟨rfl, (Fr.refl _ _).alloc _⟩
set_option maxHeartbeats 800000 in
theorem vI_any (n : Int) (w : World) : Calls Try.prog 33 #[.int .i64 n] w fun e w' => e = .returned (.agg #[.int .i64 0, .int .i64 n, .string ⟨#[]⟩, .slice none 0 0]) ∧ Fr (fun _ => False) w w' := by
  go_enter Try.func33, Try.ntmps33
  go_wp2
  have hR : (w.alloc (.cells #[.int .i64 0, .int .i64 n, .string ⟨#[]⟩, .slice none 0 0] 30)).heap[w.heap.size]? = some (.cells #[.int .i64 0, .int .i64 n, .string ⟨#[]⟩, .slice none 0 0] 30) := heap_alloc_new w _
  refine bodyPost_ret (results_cell_row rfl _ _ w.heap.size _ _ _ _ rfl hR Try.underlying30 rfl (by kernel_rfl)) rfl ?_
  exact ⟨rfl, (Fr.refl _ _).alloc _⟩
end Go.Proofs.Ytebanmigaikhhaa
