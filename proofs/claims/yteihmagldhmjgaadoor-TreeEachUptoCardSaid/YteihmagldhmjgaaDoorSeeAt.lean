/- inglenooksee, inglenookref: faults with a place: Placed, SameFault, Fault of an error with its place, Same. -/
import Derived.Test.YteihmagldhmjgaaDoorTreeH
namespace Go.Proofs.YteihmagldhmjgaaDoor
open Go.RowKit

/-- A fault as it lies. -/
def faultV (c : Int) (p : Bool) (l : Int) : Value := .agg #[.int .i64 c, .bool p, .int .i64 l, .int .i64 0, .int .i64 0, .string ⟨#[]⟩, .slice none 0 0]
theorem faultV_bare (c : Int) : faultV c false 0 = bareV c := rfl
set_option maxHeartbeats 800000 in
theorem placed_any (n l : Int) (hn : n ≠ 0) (w : World) : Calls Tryd.prog 13 #[.int .i64 n, .int .i64 l] w fun e w' => e = .returned (faultV n true l) ∧ Fr (fun _ => False) w w' := by
  have q0 : (n == 0) = false := by simpa using hn
  go_enter Tryd.func13, Tryd.ntmps13
  go_wp2
  have hR : (w.alloc (.cells #[.int .i64 n, .bool true, .int .i64 l, .int .i64 0, .int .i64 0, .string ⟨#[]⟩, .slice none 0 0] 36)).heap[w.heap.size]? = some (.cells #[.int .i64 n, .bool true, .int .i64 l, .int .i64 0, .int .i64 0, .string ⟨#[]⟩, .slice none 0 0] 36) := heap_alloc_new w _
  refine bodyPost_ret (results_cell_row rfl _ _ w.heap.size _ _ _ _ rfl hR Tryd.underlying36 rfl (by kernel_rfl)) rfl ?_
  exact ⟨rfl, (Fr.refl _ _).alloc _⟩

set_option maxHeartbeats 1600000 in
theorem samefault_at (m n : Int) (p q : Bool) (k l : Int) (w : World) : Calls Tryd.prog 36 #[faultV m p k, faultV n q l] w fun e w' => e = .returned (.bool ((m == n) && (p == q) && (k == l))) ∧ Fr (fun _ => False) w w' := by
  unfold faultV
  generalize hr : ((m == n) && (p == q) && (k == l)) = r
  go_enter Tryd.func36, Tryd.ntmps36
  go_wp2_with fail
  refine (sv_zero _).mono ?_
  rintro e w2 ⟨rfl, hf2⟩
  have hF : ∀ o1 o2 : Obj, Fr (fun _ => False) w ((w.alloc o1).alloc o2) := fun o1 o2 => ((Fr.refl _ _).alloc _).alloc _
  have h1 := hf2.heap (k := w.heap.size) (((Fr.refl (fun _ => False) _).alloc _).heap (heap_alloc_new w (.cells #[.int .i64 m, .bool p, .int .i64 k, .int .i64 0, .int .i64 0, .string ⟨#[]⟩, .slice none 0 0] 36)) not_false) not_false
  have h2 := hf2.heap (k := w.heap.size + 1) (o := (.cells #[.int .i64 n, .bool q, .int .i64 l, .int .i64 0, .int .i64 0, .string ⟨#[]⟩, .slice none 0 0] 36)) (by
    have := heap_alloc_new (w.alloc (.cells #[.int .i64 m, .bool p, .int .i64 k, .int .i64 0, .int .i64 0, .string ⟨#[]⟩, .slice none 0 0] 36)) (.cells #[.int .i64 n, .bool q, .int .i64 l, .int .i64 0, .int .i64 0, .string ⟨#[]⟩, .slice none 0 0] 36)
    simpa using this) not_false
  have x0 : w2.cell? ⟨w.heap.size, 0, none⟩ = some (.int .i64 m) := by rw [cell_of_row _ _ 0 _ _ _ h1]; rfl
  have x1 : w2.cell? ⟨w.heap.size, 1, none⟩ = some (.bool p) := by rw [cell_of_row _ _ 1 _ _ _ h1]; rfl
  have x2 : w2.cell? ⟨w.heap.size, 2, none⟩ = some (.int .i64 k) := by rw [cell_of_row _ _ 2 _ _ _ h1]; rfl
  have y0 : w2.cell? ⟨w.heap.size + 1, 0, none⟩ = some (.int .i64 n) := by rw [cell_of_row _ _ 0 _ _ _ h2]; rfl
  have y1 : w2.cell? ⟨w.heap.size + 1, 1, none⟩ = some (.bool q) := by rw [cell_of_row _ _ 1 _ _ _ h2]; rfl
  have y2 : w2.cell? ⟨w.heap.size + 1, 2, none⟩ = some (.int .i64 l) := by rw [cell_of_row _ _ 2 _ _ _ h2]; rfl
  have HF := hid ((hF _ _).trans' hf2)
  clear h1 h2 hf2 hF
  cases hmn : (m == n) with
  | false =>
    have HR := hid (show false = r by rw [← hr, hmn]; rfl)
    clear hr
    go_wp2
    go_ret
    exact ⟨ret_bool HR.out, HF.out⟩
  | true =>
    cases hpq : (p == q) with
    | false =>
      have HR := hid (show false = r by rw [← hr, hmn, hpq]; rfl)
      clear hr
      go_wp2
      go_ret
      exact ⟨ret_bool HR.out, HF.out⟩
    | true =>
      have HR := hid (show (k == l) = r by rw [← hr, hmn, hpq]; rfl)
      clear hr
      go_wp2
      go_ret
      exact ⟨ret_bool HR.out, HF.out⟩

theorem assert_at_is (a : Addr) (w : World) : (Instr.typeAssert (.iface 76 (.pointer (some a))) 32 76 true).run Tryd.prog w = .ok (.tuple #[.pointer (some a), .bool true]) w := by kernel_rfl
set_option maxHeartbeats 3200000 in
theorem fault_at (w : World) (pa : Nat → Addr) (h : Sent17 w pa) (j : Nat) (hj : j < 17) (b : Nat) (l : Int) (hb : w.heap[b]? = some (.cells #[.int .i64 l, .iface 140 (.pointer (some (pa j)))] 79)) :
    Calls Tryd.prog 37 #[.iface 76 (.pointer (some ⟨b, 0, none⟩))] w fun e w' => e = .returned (faultV (101 + j) true l) ∧ Fr (fun _ => False) w w' := by
  have HH := hid h
  clear h
  have hbl : b < w.heap.size := (Array.getElem?_eq_some_iff.1 hb).1
  have ht := assert_at_is ⟨b, 0, none⟩
  have hF := (Fr.refl (fun _ => False) w).alloc (.cells #[.int .i64 0, .bool false, .int .i64 0, .int .i64 0, .int .i64 0, .string ⟨#[]⟩, .slice none 0 0] 36)
  have hrow := heap_alloc_new w (.cells #[.int .i64 0, .bool false, .int .i64 0, .int .i64 0, .int .i64 0, .string ⟨#[]⟩, .slice none 0 0] 36)
  have hb2 := hF.heap hb not_false
  have x0 : (w.alloc (.cells #[.int .i64 0, .bool false, .int .i64 0, .int .i64 0, .int .i64 0, .string ⟨#[]⟩, .slice none 0 0] 36)).cell? ⟨b, 0, none⟩ = some (.int .i64 l) := by rw [cell_of_row _ _ 0 _ _ _ hb2]; rfl
  have x1 : (w.alloc (.cells #[.int .i64 0, .bool false, .int .i64 0, .int .i64 0, .int .i64 0, .string ⟨#[]⟩, .slice none 0 0] 36)).cell? ⟨b, 1, none⟩ = some (.iface 140 (.pointer (some (pa j)))) := by rw [cell_of_row _ _ 1 _ _ _ hb2]; rfl
  have HI := hid (inner_any _ pa (HH.out.frame hF) j hj)
  have HF := hid hF; have HROW := hid hrow; have HB := hid hb2
  clear hb hF hrow hb2 hbl HH
  go_enter Tryd.func37, Tryd.ntmps37
  go_wp2_with fail
  refine HI.out.mono ?_
  rintro e w3 ⟨rfl, hf3⟩
  replace x0 := hf3.cell x0 not_false
  replace x1 := hf3.cell x1 not_false
  have HF3 := hid (HF.out.trans' hf3)
  have hR := hf3.heap HROW.out not_false
  have HRR := hid hR
  have HS3 := hid (show w.heap.size < w3.heap.size from Nat.lt_of_lt_of_le (by simp) hf3.size)
  clear hR hf3 ht
  unfold bareV
  have x2 := ((Fr.refl (fun _ => False) w3).alloc (.cells #[.int .i64 (101 + j), .bool true, .int .i64 0, .int .i64 0, .int .i64 0, .string ⟨#[]⟩, .slice none 0 0] 36)).cell x0 not_false
  go_upto_region 11 with fail
  have hg4 := heap_alloc_new w3 (.cells #[.int .i64 (101 + j), .bool true, .int .i64 l, .int .i64 0, .int .i64 0, .string ⟨#[]⟩, .slice none 0 0] 36)
  have hR := ((Fr.refl (fun _ => False) w3).alloc (.cells #[.int .i64 (101 + j), .bool true, .int .i64 l, .int .i64 0, .int .i64 0, .string ⟨#[]⟩, .slice none 0 0] 36)).heap HRR.out not_false
  have HF4 := hid (HF3.out.alloc (.cells #[.int .i64 (101 + j), .bool true, .int .i64 l, .int .i64 0, .int .i64 0, .string ⟨#[]⟩, .slice none 0 0] 36))
  have HBA := hid (Nat.le_refl w.heap.size)
  generalize hW4 : w3.alloc (.cells #[.int .i64 (101 + j), .bool true, .int .i64 l, .int .i64 0, .int .i64 0, .string ⟨#[]⟩, .slice none 0 0] 36) = W4 at *
  obtain ⟨B4, hB4⟩ : ∃ B4, w3.heap.size = B4 := ⟨_, rfl⟩
  rw [hB4] at hg4 ⊢
  clear hW4 hB4
  have y0 : W4.cell? ⟨B4, 0, none⟩ = some (.int .i64 (101 + j)) := by rw [cell_of_row _ _ 0 _ _ _ hg4]; rfl
  have y1 : W4.cell? ⟨B4, 1, none⟩ = some (.bool true) := by rw [cell_of_row _ _ 1 _ _ _ hg4]; rfl
  have y2 : W4.cell? ⟨B4, 2, none⟩ = some (.int .i64 l) := by rw [cell_of_row _ _ 2 _ _ _ hg4]; rfl
  have y3 : W4.cell? ⟨B4, 3, none⟩ = some (.int .i64 0) := by rw [cell_of_row _ _ 3 _ _ _ hg4]; rfl
  have y4 : W4.cell? ⟨B4, 4, none⟩ = some (.int .i64 0) := by rw [cell_of_row _ _ 4 _ _ _ hg4]; rfl
  have y5 : W4.cell? ⟨B4, 5, none⟩ = some (.string ⟨#[]⟩) := by rw [cell_of_row _ _ 5 _ _ _ hg4]; rfl
  have y6 : W4.cell? ⟨B4, 6, none⟩ = some (.slice none 0 0) := by rw [cell_of_row _ _ 6 _ _ _ hg4]; rfl
  have z0 : W4.cell? ⟨w.heap.size, 0, none⟩ = some (.int .i64 0) := by rw [cell_of_row _ _ 0 _ _ _ hR]; rfl
  have z1 : W4.cell? ⟨w.heap.size, 1, none⟩ = some (.bool false) := by rw [cell_of_row _ _ 1 _ _ _ hR]; rfl
  have z2 : W4.cell? ⟨w.heap.size, 2, none⟩ = some (.int .i64 0) := by rw [cell_of_row _ _ 2 _ _ _ hR]; rfl
  have z3 : W4.cell? ⟨w.heap.size, 3, none⟩ = some (.int .i64 0) := by rw [cell_of_row _ _ 3 _ _ _ hR]; rfl
  have z4 : W4.cell? ⟨w.heap.size, 4, none⟩ = some (.int .i64 0) := by rw [cell_of_row _ _ 4 _ _ _ hR]; rfl
  have z5 : W4.cell? ⟨w.heap.size, 5, none⟩ = some (.string ⟨#[]⟩) := by rw [cell_of_row _ _ 5 _ _ _ hR]; rfl
  have z6 : W4.cell? ⟨w.heap.size, 6, none⟩ = some (.slice none 0 0) := by rw [cell_of_row _ _ 6 _ _ _ hR]; rfl
  have fz : ∀ i, W4.frozen? ⟨w.heap.size, i, none⟩ = false := fun i => frozen_of_row _ _ i _ _ hR
  have HR4 := hid hR
  clear hg4 hR x0 x1 x2
  go_wp2_with fail
  have hR2 := setCell_row 6 (.slice none 0 0) (setCell_row 5 (.string ⟨#[]⟩) (setCell_row 4 (.int .i64 0) (setCell_row 3 (.int .i64 0) (setCell_row 2 (.int .i64 l) (setCell_row 1 (.bool true) (setCell_row 0 (.int .i64 (101 + j)) (HR4.out)))))))
  simp only [List.setIfInBounds_toArray, List.set_cons_zero, List.set_cons_succ] at hR2
  have hf8 : Fr (fun q => q = w.heap.size) W4 (((((((W4.setCell ⟨w.heap.size, 0, none⟩ (.int .i64 (101 + j))).setCell ⟨w.heap.size, 1, none⟩ (.bool true)).setCell ⟨w.heap.size, 2, none⟩ (.int .i64 l)).setCell ⟨w.heap.size, 3, none⟩ (.int .i64 0)).setCell ⟨w.heap.size, 4, none⟩ (.int .i64 0)).setCell ⟨w.heap.size, 5, none⟩ (.string ⟨#[]⟩)).setCell ⟨w.heap.size, 6, none⟩ (.slice none 0 0)) := ((((((((Fr.refl (fun q => q = w.heap.size) W4).setCell (p := ⟨w.heap.size, 0, none⟩) (.inl rfl) (.int .i64 (101 + j))).setCell (p := ⟨w.heap.size, 1, none⟩) (.inl rfl) (.bool true)).setCell (p := ⟨w.heap.size, 2, none⟩) (.inl rfl) (.int .i64 l)).setCell (p := ⟨w.heap.size, 3, none⟩) (.inl rfl) (.int .i64 0)).setCell (p := ⟨w.heap.size, 4, none⟩) (.inl rfl) (.int .i64 0)).setCell (p := ⟨w.heap.size, 5, none⟩) (.inl rfl) (.string ⟨#[]⟩)).setCell (p := ⟨w.heap.size, 6, none⟩) (.inl rfl) (.slice none 0 0))
  refine bodyPost_ret (results_cell_row rfl _ _ w.heap.size _ _ _ _ rfl hR2 Tryd.underlying36 rfl (by kernel_rfl)) rfl ?_
  exact ⟨rfl, HF4.out.trans hf8 (fun _ _ => id) (fun q hq e => by omega)⟩
set_option maxHeartbeats 1600000 in
theorem seesame_at (w : World) (e : Value) (m c : Int) (p q : Bool) (k l : Int) (hf : ∀ w', Fr (fun _ => False) w w' → Calls Tryd.prog 37 #[e] w' fun x w'' => x = .returned (faultV m p k) ∧ Fr (fun _ => False) w' w'') :
    Calls Tryd.prog 12 #[e, faultV c q l] w fun x w' => x = .returned (.bool ((m == c) && (p == q) && (k == l))) ∧ Fr (fun _ => False) w w' := by
  have HC := hid hf
  clear hf
  have hb := heap_alloc_new w (.cells #[.int .i64 c, .bool q, .int .i64 l, .int .i64 0, .int .i64 0, .string ⟨#[]⟩, .slice none 0 0] 36)
  have hF := (Fr.refl (fun _ => False) w).alloc (.cells #[.int .i64 c, .bool q, .int .i64 l, .int .i64 0, .int .i64 0, .string ⟨#[]⟩, .slice none 0 0] 36)
  have hsf := fun w' => samefault_at m c p q k l w'
  have HSF := hid hsf
  clear hsf
  generalize ((m == c) && (p == q) && (k == l)) = r at *
  unfold faultV at HC HSF ⊢
  go_enter Tryd.func12, Tryd.ntmps12
  go_upto_region 1 with fail
  generalize w.alloc (.cells #[.int .i64 c, .bool q, .int .i64 l, .int .i64 0, .int .i64 0, .string ⟨#[]⟩, .slice none 0 0] 36) = W at *
  have HF := hid hF
  clear hF
  refine wp_region_cls (fun w' => Fr (fun _ => False) W w') (by kernel_rfl) (by kernel_rfl) (Fr.refl _ _).drew ?_
  (refine q_take ?_ (by kernel_rfl) ?_ ?_; rotate_left; (· intro w' hS; go_simp; try with_reducible rfl); (try simp only [Act.put, List.setIfInBounds_toArray, List.set_cons_zero, List.set_cons_succ]))
  (refine q_call ?_ ?_ (by kernel_rfl) ?_ ?_; rotate_left 2; (· intro w' hS; go_simp; first | with_reducible rfl | (constructor <;> with_reducible rfl)); (refine ⟨_, fun w' hw => (HC.out w' (HF.out.trans' hw)).mono fun _ _ h => ⟨h.1, hw.trans' h.2⟩, ?_⟩); (try simp only [Act.put, List.setIfInBounds_toArray, List.set_cons_zero, List.set_cons_succ]))
  (refine q_load (by kernel_rfl) rfl rfl (fun w' hw => Fr.heap hw hb not_false) (by kernel_rfl) (by kernel_rfl) ?_; (try simp only [Act.put, List.setIfInBounds_toArray, List.set_cons_zero, List.set_cons_succ]))
  (refine q_call ?_ ?_ (by kernel_rfl) ?_ ?_; rotate_left 2; (· intro w' hS; go_simp; first | with_reducible rfl | (constructor <;> with_reducible rfl)); (refine ⟨_, fun w' hw => (HSF.out w').mono fun _ _ h => ⟨h.1, hw.trans' h.2⟩, ?_⟩); (try simp only [Act.put, List.setIfInBounds_toArray, List.set_cons_zero, List.set_cons_succ]))
  (refine q_take ?_ (by kernel_rfl) ?_ ?_; rotate_left; (· intro w' hS; go_simp; try with_reducible rfl); (try simp only [Act.put, List.setIfInBounds_toArray, List.set_cons_zero, List.set_cons_succ]))
  refine q_end (fun W6 hw => ?_)
  have HW := hid (HF.out.trans' hw)
  clear hw
  go_wp2
  go_ret
  exact ⟨rfl, HW.out⟩

set_option maxHeartbeats 1600000 in
theorem seeis_at (w : World) (e : Value) (m c : Int) (p : Bool) (k : Int) (hf : ∀ w', Fr (fun _ => False) w w' → Calls Tryd.prog 37 #[e] w' fun x w'' => x = .returned (faultV m p k) ∧ Fr (fun _ => False) w' w'') :
    Calls Tryd.prog 20 #[e, .int .i64 c] w fun x w' => x = .returned (.bool ((m == c) && (p == false) && (k == 0))) ∧ Fr (fun _ => False) w w' := by
  have HSS := hid (fun w2 => seesame_at w2 e m c p false k 0)
  have HC := hid hf
  clear hf
  generalize ((m == c) && (p == false) && (k == 0)) = r at *
  go_enter Tryd.func20, Tryd.ntmps20
  go_wp2_with fail
  refine (bare_any c w).mono ?_
  rintro x w2 ⟨rfl, hf2⟩
  have hs := HSS.out w2 fun w' hw => HC.out w' (hf2.trans' hw)
  have HS := hid hs; have HF2 := hid hf2
  clear hs hf2
  unfold faultV at HS
  unfold bareV
  go_wp2_with fail
  refine HS.out.mono ?_
  rintro x w3 ⟨rfl, hf3⟩
  have HF3 := hid (HF2.out.trans' hf3)
  clear hf3
  go_wp2
  go_ret
  exact ⟨rfl, HF3.out⟩



theorem fault_err {w : World} {pa : Nat → Addr} (h : Sent17 w pa) {f : Flt} {v : Value} (hv : ErrIs pa w f v) : Calls Tryd.prog 37 #[v] w fun e w' => e = .returned (faultV f.c f.p f.l) ∧ Fr (fun _ => False) w w' := by
  obtain ⟨fc, fp, fl⟩ := f
  obtain ⟨hc, ⟨h1, h2, h3⟩ | ⟨h1, h2, b, h3, hb⟩⟩ := hv
  · simp only at h1 h2 h3 hc ⊢
    subst h1 h2 h3
    rcases hc with rfl | ⟨g1, g2⟩
    · exact fault_nil w
    · unfold errV
      rw [if_neg (by omega)]
      have := fault_any w pa h (fc - 101) (by omega)
      rw [show (101 + ((fc - 101 : Nat) : Int)) = (fc : Int) by omega] at this
      exact this
  · simp only at h1 h2 h3 hc hb ⊢
    subst h1 h3
    rcases hc with rfl | ⟨g1, g2⟩
    · exact absurd rfl h2
    · unfold errV at hb
      rw [if_neg (by omega)] at hb
      have := fault_at w pa h (fc - 101) (by omega) b fl hb
      rw [show (101 + ((fc - 101 : Nat) : Int)) = (fc : Int) by omega] at this
      exact this
/-- Is an error this fault? -/
theorem same_err {w : World} {pa : Nat → Addr} (h : Sent17 w pa) {f : Flt} {v : Value} (hv : ErrIs pa w f v) (c : Int) (q : Bool) (l : Int) : Calls Tryd.prog 12 #[v, faultV c q l] w fun e w' => e = .returned (.bool (((f.c : Int) == c) && (f.p == q) && (f.l == l))) ∧ Fr (fun _ => False) w w' :=
  seesame_at w v f.c c f.p q f.l l fun w' hf => fault_err (h.frame hf) (hv.frame hf)
theorem is_err {w : World} {pa : Nat → Addr} (h : Sent17 w pa) {f : Flt} {v : Value} (hv : ErrIs pa w f v) (c : Int) : Calls Tryd.prog 20 #[v, .int .i64 c] w fun e w' => e = .returned (.bool (((f.c : Int) == c) && (f.p == false) && (f.l == 0))) ∧ Fr (fun _ => False) w w' :=
  seeis_at w v f.c c f.p f.l fun w' hf => fault_err (h.frame hf) (hv.frame hf)
end Go.Proofs.YteihmagldhmjgaaDoor
