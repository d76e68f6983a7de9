/- ValValid: true, whatever comes in (of at most 2^20 in all). -/
import Derived.Test.YteadegaclnibhaaDoorValFirstD
import Derived.Test.YteadegaclnibhaaDoorSeeIs2
import Derived.Test.YteadegaclnibhaaDoorFew
namespace Go.Proofs.YteadegaclnibhaaDoor
open Go.RowKit

set_option maxHeartbeats 1600000 in
theorem valValid_any (x : V) (hM : x.size ≤ 1099511627776) (D : Nat → Prop) (w : World) (u : Array Value) (h : VIn D w x u) (pa : Nat → Addr) (hs : Sent17 w pa) :
    Calls Tryd.prog 3 #[.agg u] w fun e w' => e = .returned (.bool true) ∧ Fr (fun _ => False) w w' := by
  have h4 : 4 ≤ w.heap.size := World.block_lt_of_cell? w ⟨3, 0, none⟩ (errs_of hs).s
  obtain ⟨v, rfl, hl⟩ := id h.open
  obtain ⟨a, cap, us, rfl, -⟩ := hl
  have hF : Fr (fun _ => False) w (w.alloc (.cells #[.int .i64 x.k, .int .i64 x.n, .string x.s, .slice a x.l.length cap] 24)) := (Fr.refl _ _).alloc _
  have hb : (w.alloc (.cells #[.int .i64 x.k, .int .i64 x.n, .string x.s, .slice a x.l.length cap] 24)).heap[w.heap.size]? = some (.cells #[.int .i64 x.k, .int .i64 x.n, .string x.s, .slice a x.l.length cap] 24) := heap_alloc_new w _
  have hsm := fun (w' : World) (hw : Fr (fun _ => False) w w') => small_any x hM D w' _ (h.frame hw fun _ _ => id)
  have hva := fun (w' : World) (hw : Fr (fun _ => False) w w') => vvalid_any _ _ _ _ ⟨_, _, rfl⟩ ⟨_, _, rfl⟩ ⟨_, _, rfl⟩ ⟨_, _, rfl⟩ x hM D w' _ (h.frame hw fun _ _ => id) (errs_of (hs.frame hw)) (Nat.le_trans h4 hw.size)
  have hrv := fun (w' : World) (hw : Fr (fun _ => False) w w') => rvalid_any x hM D w' _ (h.frame hw fun _ _ => id)
  have his := fun (w' : World) (hw : Fr (fun _ => False) w w') => is_any w' pa (hs.frame hw) x.valid (V.odd_five x 1 0)
  have hns : x.small = false → x.valid ≠ 0 := fun h1 h2 => by rw [V.small_of h2] at h1; cases h1
  have HSM := hid hsm; have HVA := hid hva; have HRV := hid hrv; have HIS := hid his; have HNS := hid hns
  clear hsm hva hrv his hns h hs hM
  change Hid (∀ w' : World, Fr (fun _ => False) w w' → Calls Tryd.prog 8 _ w' fun e w'' => e = .returned (evA pa x.valid) ∧ Fr (fun _ => False) w' w'') at HVA
  generalize x.small = sm at *
  generalize x.valid = rv at *
  generalize x.k = kk at *
  generalize x.n = nn at *
  generalize x.s = ss at *
  generalize x.l.length = ll at *
  have HB := hid hb; have HF := hid hF
  clear hb hF
  go_enter Tryd.func3, Tryd.ntmps3
  go_wp2_with fail
  refine (first_any _).mono ?_
  rintro e w1 ⟨rfl, hf1⟩
  have hb1 := hf1.heap HB.out not_false
  have x0 : w1.cell? ⟨w.heap.size, 0, none⟩ = some (.int .i64 kk) := by rw [cell_of_row _ _ 0 _ _ _ hb1]; rfl
  have x1 : w1.cell? ⟨w.heap.size, 1, none⟩ = some (.int .i64 nn) := by rw [cell_of_row _ _ 1 _ _ _ hb1]; rfl
  have x2 : w1.cell? ⟨w.heap.size, 2, none⟩ = some (.string ss) := by rw [cell_of_row _ _ 2 _ _ _ hb1]; rfl
  have x3 : w1.cell? ⟨w.heap.size, 3, none⟩ = some (.slice a ll cap) := by rw [cell_of_row _ _ 3 _ _ _ hb1]; rfl
  have HB1 := hid hb1; have HF1 := hid (HF.out.trans' hf1)
  clear hb1 hf1 HB HF
  go_wp2_with fail
  refine (HSM.out w1 HF1.out).mono ?_
  rintro e w2 ⟨rfl, hf2⟩
  have hb2 := hf2.heap HB1.out not_false
  have HF2 := hid (HF1.out.trans' hf2)
  clear x0 x1 x2 x3 hf2
  cases sm with
  | false =>
    have hne := HNS.out rfl
    have x0 : w2.cell? ⟨w.heap.size, 0, none⟩ = some (.int .i64 kk) := by rw [cell_of_row _ _ 0 _ _ _ hb2]; rfl
    have x1 : w2.cell? ⟨w.heap.size, 1, none⟩ = some (.int .i64 nn) := by rw [cell_of_row _ _ 1 _ _ _ hb2]; rfl
    have x2 : w2.cell? ⟨w.heap.size, 2, none⟩ = some (.string ss) := by rw [cell_of_row _ _ 2 _ _ _ hb2]; rfl
    have x3 : w2.cell? ⟨w.heap.size, 3, none⟩ = some (.slice a ll cap) := by rw [cell_of_row _ _ 3 _ _ _ hb2]; rfl
    have HB2 := hid hb2; have HNE := hid hne
    clear hb2 hne
    go_wp2_with fail
    refine (HSM.out w2 HF2.out).mono ?_
    rintro e w3 ⟨rfl, hf3⟩
    have hb3 := hf3.heap HB2.out not_false
    clear x0 x1 x2 x3
    have x0 : w3.cell? ⟨w.heap.size, 0, none⟩ = some (.int .i64 kk) := by rw [cell_of_row _ _ 0 _ _ _ hb3]; rfl
    have x1 : w3.cell? ⟨w.heap.size, 1, none⟩ = some (.int .i64 nn) := by rw [cell_of_row _ _ 1 _ _ _ hb3]; rfl
    have x2 : w3.cell? ⟨w.heap.size, 2, none⟩ = some (.string ss) := by rw [cell_of_row _ _ 2 _ _ _ hb3]; rfl
    have x3 : w3.cell? ⟨w.heap.size, 3, none⟩ = some (.slice a ll cap) := by rw [cell_of_row _ _ 3 _ _ _ hb3]; rfl
    have HF3 := hid (HF2.out.trans' hf3)
    clear hb3 hf3
    go_wp2_with fail
    refine (HVA.out w3 HF3.out).mono ?_
    rintro e w4 ⟨rfl, hf4⟩
    have HF4 := hid (HF3.out.trans' hf4)
    clear hf4
    obtain ⟨t, vv, he⟩ : IsErr (evA pa rv) := ev_iface ⟨_, _, rfl⟩ ⟨_, _, rfl⟩ ⟨_, _, rfl⟩ ⟨_, _, rfl⟩ HNE.out
    rw [he]
    go_wp2
    go_ret
    exact ⟨rfl, HF4.out⟩
  | true =>
    go_upto_region 6 with fail
    refine wp_region_cls (fun w' => Fr (fun _ => False) w2 w') (by kernel_rfl) (by kernel_rfl) (Fr.refl _ _).drew ?_
    (refine q_load (by kernel_rfl) rfl rfl (fun w' hw => Fr.heap hw hb2 not_false) (by kernel_rfl) (by kernel_rfl) ?_; (try simp only [Act.put, List.setIfInBounds_toArray, List.set_cons_zero, List.set_cons_succ]))
    (refine q_call ?_ ?_ (by kernel_rfl) ?_ ?_; rotate_left 2; (· intro w' hS; go_simp; first | with_reducible rfl | (constructor <;> with_reducible rfl)); (refine ⟨_, fun w' hw => (HVA.out w' (HF2.out.trans' hw)).mono fun _ _ h => ⟨h.1, hw.trans' h.2⟩, ?_⟩); (try simp only [Act.put, List.setIfInBounds_toArray, List.set_cons_zero, List.set_cons_succ]))
    (refine q_load (by kernel_rfl) rfl rfl (fun w' hw => Fr.heap hw hb2 not_false) (by kernel_rfl) (by kernel_rfl) ?_; (try simp only [Act.put, List.setIfInBounds_toArray, List.set_cons_zero, List.set_cons_succ]))
    (refine q_call ?_ ?_ (by kernel_rfl) ?_ ?_; rotate_left 2; (· intro w' hS; go_simp; first | with_reducible rfl | (constructor <;> with_reducible rfl)); (refine ⟨_, fun w' hw => (HRV.out w' (HF2.out.trans' hw)).mono fun _ _ h => ⟨h.1, hw.trans' h.2⟩, ?_⟩); (try simp only [Act.put, List.setIfInBounds_toArray, List.set_cons_zero, List.set_cons_succ]))
    (refine q_call ?_ ?_ (by kernel_rfl) ?_ ?_; rotate_left 2; (· intro w' hS; go_simp; first | with_reducible rfl | (constructor <;> with_reducible rfl)); (refine ⟨_, fun w' hw => (HIS.out w' (HF2.out.trans' hw)).mono fun _ _ h => ⟨h.1, hw.trans' h.2⟩, ?_⟩); (try simp only [Act.put, List.setIfInBounds_toArray, List.set_cons_zero, List.set_cons_succ]))
    (refine q_take ?_ (by kernel_rfl) ?_ ?_; rotate_left; (· intro w' hS; go_simp; try with_reducible rfl); (try simp only [Act.put, List.setIfInBounds_toArray, List.set_cons_zero, List.set_cons_succ]))
    refine q_end (fun W6 hw => ?_)
    have HW := hid (HF2.out.trans' hw)
    clear hw
    go_wp2
    go_ret
    exact ⟨rfl, HW.out⟩
end Go.Proofs.YteadegaclnibhaaDoor
