/- PermOwns returns true: the walk. -/
import Derived.Test.YtpjlpnnopibclaaPermSays
import Derived.Test.YtpjlpnnopibclaaNumber
namespace Go.Proofs.Ytpjlpnnopibclaa
open Go.RowKit

theorem boxes4 (w : World) (A B C D : Obj) : let W := (((w.alloc A).alloc B).alloc C).alloc D; W.heap[w.heap.size]? = some A ∧ W.heap[w.heap.size + 1]? = some B ∧ W.heap[w.heap.size + 1 + 1]? = some C ∧ W.heap[w.heap.size + 1 + 1 + 1]? = some D :=
  ⟨box_heap ((((Fr.refl _ _).alloc _).alloc _).alloc _) _ rfl, box_heap (((Fr.refl _ _).alloc _).alloc _) _ (by simp), box_heap ((Fr.refl _ _).alloc _) _ (by simp), box_heap (Fr.refl _ _) _ (by simp)⟩

set_option maxRecDepth 100000 in
set_option maxHeartbeats 4000000 in
theorem permOwns_any (id n : Int) (pr : Bool) (w : World) (hn1 : -9223372036854775808 ≤ n) (hn2 : n ≤ 9223372036854775807) :
    Calls Try.prog 7 #[.int .i64 id, .int .i64 n, .bool pr] w fun e w' => e = .returned (.bool true) ∧ Fr (fun _ => False) w w' := by
  have o7 : ownsB id false id = true := by simp [ownsB]
  go_enter Try.func7, Try.ntmps7
  go_upto_region 10 with (first | (go_at_call 8; refine (first_any _).mono ?_; rintro e w1 ⟨rfl, hf1⟩) | (go_at_call 9; refine (number_any n 64 _ (by omega) (by omega) hn1 hn2).mono ?_; rintro e w' ⟨rfl, rfl⟩; generalize n % 64 = q at *))
  obtain ⟨hb8, hb9, hb10, hb11⟩ := boxes4 w1 (.cells #[.int .i64 id, .bool false, .bool pr] 25) (.cells #[.string ⟨#[]⟩, .int .i64 id, .int .i64 0, .bool false, .int .i64 0, .int .i64 0, .string ⟨#[]⟩, .slice none 0 0] 30) (.cells #[.string ⟨#[]⟩, .int .i64 id, .int .i64 0, .string ⟨#[]⟩, .slice none 0 0] 33) (.cells #[.int .i64 id, .int .i64 0, .int .i64 id, .int .i64 0, .int .i64 q, .int .i64 0, .string ⟨#[]⟩, .slice none 0 0, .slice none 0 0, .slice none 0 0] 41)
  have F2 := (((hf1.alloc (.cells #[.int .i64 id, .bool false, .bool pr] 25)).alloc (.cells #[.string ⟨#[]⟩, .int .i64 id, .int .i64 0, .bool false, .int .i64 0, .int .i64 0, .string ⟨#[]⟩, .slice none 0 0] 30)).alloc (.cells #[.string ⟨#[]⟩, .int .i64 id, .int .i64 0, .string ⟨#[]⟩, .slice none 0 0] 33)).alloc (.cells #[.int .i64 id, .int .i64 0, .int .i64 id, .int .i64 0, .int .i64 q, .int .i64 0, .string ⟨#[]⟩, .slice none 0 0, .slice none 0 0, .slice none 0 0] 41)
  have HF := hid F2; clear F2
  have s1 : slotB true 1 0 = true := by simp [slotB]
  have s2 : slotB true 2 0 = true := by simp [slotB]
  have s3 : slotB true 4 0 = true := by simp [slotB]
  have s4 : verbB true pr 5 0 = true := by simp [verbB]
  have s5 : verbB true pr 6 0 = pr := by simp [verbB]
  have s6 : verbB true pr 7 0 = false := by simp [verbB, hasB_zero_left]
  have s7 : objB true false pr 3 q = true := by simp [objB]
  have s8 : objB true false pr 8 q = pr := by simp [objB]
  have s9 : objB true false pr 10 q = true := by simp [objB]
  have s10 : objB true false pr 12 q = true := by simp [objB]
  have s11 : objB true false pr 14 q = true := by simp [objB]
  have s12 : objB true false pr 13 q = !(Go.bits BinOp.and IntKind.i64 q 1 != 0) := by cases h : (Go.bits BinOp.and IntKind.i64 q 1 != 0) <;> simp [objB, hasB, h]
  have s13 : objB true false pr 15 q = false := by simp [objB]
  have s14 : twoB true true true pr 9 q = pr := by simp [twoB]
  have s15 : twoB true true true pr 11 q = true := by simp [twoB]
  have s16 : (pr == pr) = true := by simp
  have S1 := o7
  clear o7
  generalize (((w1.alloc (.cells #[.int .i64 id, .bool false, .bool pr] 25)).alloc (.cells #[.string ⟨#[]⟩, .int .i64 id, .int .i64 0, .bool false, .int .i64 0, .int .i64 0, .string ⟨#[]⟩, .slice none 0 0] 30)).alloc (.cells #[.string ⟨#[]⟩, .int .i64 id, .int .i64 0, .string ⟨#[]⟩, .slice none 0 0] 33)).alloc (.cells #[.int .i64 id, .int .i64 0, .int .i64 id, .int .i64 0, .int .i64 q, .int .i64 0, .string ⟨#[]⟩, .slice none 0 0, .slice none 0 0, .slice none 0 0] 41) = W0 at *
  refine wp_region_cls0 (fun w' => Fr (fun _ => False) W0 w') (Fr.refl _ _) ?_
  cases hb2 : (Go.bits BinOp.and IntKind.i64 q 1 != 0)
  all_goals
    rw [hb2] at s12
    simp only [Bool.not_false, Bool.not_true] at s12
    iterate 2 (refine q_take ?_ (by kernel_rfl) ?_ ?_; rotate_left; (· intro w' hS; go_simp; try with_reducible rfl); (try simp only [Act.put, List.setIfInBounds_toArray, List.set_cons_zero, List.set_cons_succ]))
    (refine q_load (by kernel_rfl) rfl rfl (fun w' hw => Fr.heap hw hb8 not_false) (by kernel_rfl) (by kernel_rfl) ?_; (try simp only [Act.put, List.setIfInBounds_toArray, List.set_cons_zero, List.set_cons_succ]))
    (refine q_load (by kernel_rfl) rfl rfl (fun w' hw => Fr.heap hw hb11 not_false) (by kernel_rfl) (by kernel_rfl) ?_; (try simp only [Act.put, List.setIfInBounds_toArray, List.set_cons_zero, List.set_cons_succ]))
    (refine q_call ?_ ?_ (by kernel_rfl) ?_ ?_; rotate_left 2; (· intro w' hS; go_simp; first | with_reducible rfl | (constructor <;> with_reducible rfl)); (refine ⟨_, fun w' hw => (controls_fr _ _ _ _ _ _ _ _ _ _ _ _ _ w').mono fun _ _ h => ⟨h.1, hw.trans' h.2⟩, ?_⟩); (try simp only [Act.put, List.setIfInBounds_toArray, List.set_cons_zero, List.set_cons_succ]))
    iterate 2 (refine q_take ?_ (by kernel_rfl) ?_ ?_; rotate_left; (· intro w' hS; go_simp; try with_reducible rfl); (try simp only [Act.put, List.setIfInBounds_toArray, List.set_cons_zero, List.set_cons_succ]))
    (refine q_load (by kernel_rfl) rfl rfl (fun w' hw => Fr.heap hw hb8 not_false) (by kernel_rfl) (by kernel_rfl) ?_; (try simp only [Act.put, List.setIfInBounds_toArray, List.set_cons_zero, List.set_cons_succ]))
    (refine q_load (by kernel_rfl) rfl rfl (fun w' hw => Fr.heap hw hb9 not_false) (by kernel_rfl) (by kernel_rfl) ?_; (try simp only [Act.put, List.setIfInBounds_toArray, List.set_cons_zero, List.set_cons_succ]))
    (refine q_call ?_ ?_ (by kernel_rfl) ?_ ?_; rotate_left 2; (· intro w' hS; go_simp; first | with_reducible rfl | (constructor <;> with_reducible rfl)); (refine ⟨_, fun w' hw => (slot_any _ _ _ _ _ _ _ _ _ _ _ _ w').mono fun _ _ h => ⟨h.1, hw.trans' h.2⟩, ?_⟩); (try simp only [Act.put, List.setIfInBounds_toArray, List.set_cons_zero, List.set_cons_succ]))
    iterate 2 (refine q_take ?_ (by kernel_rfl) ?_ ?_; rotate_left; (· intro w' hS; go_simp; try with_reducible rfl); (try simp only [Act.put, List.setIfInBounds_toArray, List.set_cons_zero, List.set_cons_succ]))
    (refine q_load (by kernel_rfl) rfl rfl (fun w' hw => Fr.heap hw hb8 not_false) (by kernel_rfl) (by kernel_rfl) ?_; (try simp only [Act.put, List.setIfInBounds_toArray, List.set_cons_zero, List.set_cons_succ]))
    (refine q_load (by kernel_rfl) rfl rfl (fun w' hw => Fr.heap hw hb9 not_false) (by kernel_rfl) (by kernel_rfl) ?_; (try simp only [Act.put, List.setIfInBounds_toArray, List.set_cons_zero, List.set_cons_succ]))
    (refine q_call ?_ ?_ (by kernel_rfl) ?_ ?_; rotate_left 2; (· intro w' hS; go_simp; first | with_reducible rfl | (constructor <;> with_reducible rfl)); (refine ⟨_, fun w' hw => (slot_any _ _ _ _ _ _ _ _ _ _ _ _ w').mono fun _ _ h => ⟨h.1, hw.trans' h.2⟩, ?_⟩); (try simp only [Act.put, List.setIfInBounds_toArray, List.set_cons_zero, List.set_cons_succ]))
    iterate 2 (refine q_take ?_ (by kernel_rfl) ?_ ?_; rotate_left; (· intro w' hS; go_simp; try with_reducible rfl); (try simp only [Act.put, List.setIfInBounds_toArray, List.set_cons_zero, List.set_cons_succ]))
    (refine q_load (by kernel_rfl) rfl rfl (fun w' hw => Fr.heap hw hb8 not_false) (by kernel_rfl) (by kernel_rfl) ?_; (try simp only [Act.put, List.setIfInBounds_toArray, List.set_cons_zero, List.set_cons_succ]))
    (refine q_load (by kernel_rfl) rfl rfl (fun w' hw => Fr.heap hw hb9 not_false) (by kernel_rfl) (by kernel_rfl) ?_; (try simp only [Act.put, List.setIfInBounds_toArray, List.set_cons_zero, List.set_cons_succ]))
    (refine q_call ?_ ?_ (by kernel_rfl) ?_ ?_; rotate_left 2; (· intro w' hS; go_simp; first | with_reducible rfl | (constructor <;> with_reducible rfl)); (refine ⟨_, fun w' hw => (slot_any _ _ _ _ _ _ _ _ _ _ _ _ w').mono fun _ _ h => ⟨h.1, hw.trans' h.2⟩, ?_⟩); (try simp only [Act.put, List.setIfInBounds_toArray, List.set_cons_zero, List.set_cons_succ]))
    iterate 2 (refine q_take ?_ (by kernel_rfl) ?_ ?_; rotate_left; (· intro w' hS; go_simp; try with_reducible rfl); (try simp only [Act.put, List.setIfInBounds_toArray, List.set_cons_zero, List.set_cons_succ]))
    (refine q_load (by kernel_rfl) rfl rfl (fun w' hw => Fr.heap hw hb8 not_false) (by kernel_rfl) (by kernel_rfl) ?_; (try simp only [Act.put, List.setIfInBounds_toArray, List.set_cons_zero, List.set_cons_succ]))
    (refine q_load (by kernel_rfl) rfl rfl (fun w' hw => Fr.heap hw hb10 not_false) (by kernel_rfl) (by kernel_rfl) ?_; (try simp only [Act.put, List.setIfInBounds_toArray, List.set_cons_zero, List.set_cons_succ]))
    (refine q_call ?_ ?_ (by kernel_rfl) ?_ ?_; rotate_left 2; (· intro w' hS; go_simp; first | with_reducible rfl | (constructor <;> with_reducible rfl)); (refine ⟨_, fun w' hw => (verb_any _ _ _ _ _ _ _ _ _ w').mono fun _ _ h => ⟨h.1, hw.trans' h.2⟩, ?_⟩); (try simp only [Act.put, List.setIfInBounds_toArray, List.set_cons_zero, List.set_cons_succ]))
    iterate 2 (refine q_take ?_ (by kernel_rfl) ?_ ?_; rotate_left; (· intro w' hS; go_simp; try with_reducible rfl); (try simp only [Act.put, List.setIfInBounds_toArray, List.set_cons_zero, List.set_cons_succ]))
    (refine q_load (by kernel_rfl) rfl rfl (fun w' hw => Fr.heap hw hb8 not_false) (by kernel_rfl) (by kernel_rfl) ?_; (try simp only [Act.put, List.setIfInBounds_toArray, List.set_cons_zero, List.set_cons_succ]))
    (refine q_load (by kernel_rfl) rfl rfl (fun w' hw => Fr.heap hw hb10 not_false) (by kernel_rfl) (by kernel_rfl) ?_; (try simp only [Act.put, List.setIfInBounds_toArray, List.set_cons_zero, List.set_cons_succ]))
    (refine q_call ?_ ?_ (by kernel_rfl) ?_ ?_; rotate_left 2; (· intro w' hS; go_simp; first | with_reducible rfl | (constructor <;> with_reducible rfl)); (refine ⟨_, fun w' hw => (verb_any _ _ _ _ _ _ _ _ _ w').mono fun _ _ h => ⟨h.1, hw.trans' h.2⟩, ?_⟩); (try simp only [Act.put, List.setIfInBounds_toArray, List.set_cons_zero, List.set_cons_succ]))
    iterate 4 (refine q_take ?_ (by kernel_rfl) ?_ ?_; rotate_left; (· intro w' hS; go_simp; try with_reducible rfl); (try simp only [Act.put, List.setIfInBounds_toArray, List.set_cons_zero, List.set_cons_succ]))
    (refine q_load (by kernel_rfl) rfl rfl (fun w' hw => Fr.heap hw hb8 not_false) (by kernel_rfl) (by kernel_rfl) ?_; (try simp only [Act.put, List.setIfInBounds_toArray, List.set_cons_zero, List.set_cons_succ]))
    (refine q_load (by kernel_rfl) rfl rfl (fun w' hw => Fr.heap hw hb10 not_false) (by kernel_rfl) (by kernel_rfl) ?_; (try simp only [Act.put, List.setIfInBounds_toArray, List.set_cons_zero, List.set_cons_succ]))
    (refine q_call ?_ ?_ (by kernel_rfl) ?_ ?_; rotate_left 2; (· intro w' hS; go_simp; first | with_reducible rfl | (constructor <;> with_reducible rfl)); (refine ⟨_, fun w' hw => (verb_any _ _ _ _ _ _ _ _ _ w').mono fun _ _ h => ⟨h.1, hw.trans' h.2⟩, ?_⟩); (try simp only [Act.put, List.setIfInBounds_toArray, List.set_cons_zero, List.set_cons_succ]))
    iterate 3 (refine q_take ?_ (by kernel_rfl) ?_ ?_; rotate_left; (· intro w' hS; go_simp; try with_reducible rfl); (try simp only [Act.put, List.setIfInBounds_toArray, List.set_cons_zero, List.set_cons_succ]))
    (refine q_load (by kernel_rfl) rfl rfl (fun w' hw => Fr.heap hw hb8 not_false) (by kernel_rfl) (by kernel_rfl) ?_; (try simp only [Act.put, List.setIfInBounds_toArray, List.set_cons_zero, List.set_cons_succ]))
    (refine q_load (by kernel_rfl) rfl rfl (fun w' hw => Fr.heap hw hb11 not_false) (by kernel_rfl) (by kernel_rfl) ?_; (try simp only [Act.put, List.setIfInBounds_toArray, List.set_cons_zero, List.set_cons_succ]))
    (refine q_call ?_ ?_ (by kernel_rfl) ?_ ?_; rotate_left 2; (· intro w' hS; go_simp; first | with_reducible rfl | (constructor <;> with_reducible rfl)); (refine ⟨_, fun w' hw => (object_any _ _ _ _ _ _ _ _ _ _ _ _ _ _ w').mono fun _ _ h => ⟨h.1, hw.trans' h.2⟩, ?_⟩); (try simp only [Act.put, List.setIfInBounds_toArray, List.set_cons_zero, List.set_cons_succ]))
    iterate 2 (refine q_take ?_ (by kernel_rfl) ?_ ?_; rotate_left; (· intro w' hS; go_simp; try with_reducible rfl); (try simp only [Act.put, List.setIfInBounds_toArray, List.set_cons_zero, List.set_cons_succ]))
    (refine q_load (by kernel_rfl) rfl rfl (fun w' hw => Fr.heap hw hb8 not_false) (by kernel_rfl) (by kernel_rfl) ?_; (try simp only [Act.put, List.setIfInBounds_toArray, List.set_cons_zero, List.set_cons_succ]))
    (refine q_load (by kernel_rfl) rfl rfl (fun w' hw => Fr.heap hw hb11 not_false) (by kernel_rfl) (by kernel_rfl) ?_; (try simp only [Act.put, List.setIfInBounds_toArray, List.set_cons_zero, List.set_cons_succ]))
    (refine q_call ?_ ?_ (by kernel_rfl) ?_ ?_; rotate_left 2; (· intro w' hS; go_simp; first | with_reducible rfl | (constructor <;> with_reducible rfl)); (refine ⟨_, fun w' hw => (object_any _ _ _ _ _ _ _ _ _ _ _ _ _ _ w').mono fun _ _ h => ⟨h.1, hw.trans' h.2⟩, ?_⟩); (try simp only [Act.put, List.setIfInBounds_toArray, List.set_cons_zero, List.set_cons_succ]))
    iterate 4 (refine q_take ?_ (by kernel_rfl) ?_ ?_; rotate_left; (· intro w' hS; go_simp; try with_reducible rfl); (try simp only [Act.put, List.setIfInBounds_toArray, List.set_cons_zero, List.set_cons_succ]))
    (refine q_load (by kernel_rfl) rfl rfl (fun w' hw => Fr.heap hw hb8 not_false) (by kernel_rfl) (by kernel_rfl) ?_; (try simp only [Act.put, List.setIfInBounds_toArray, List.set_cons_zero, List.set_cons_succ]))
    (refine q_load (by kernel_rfl) rfl rfl (fun w' hw => Fr.heap hw hb11 not_false) (by kernel_rfl) (by kernel_rfl) ?_; (try simp only [Act.put, List.setIfInBounds_toArray, List.set_cons_zero, List.set_cons_succ]))
    (refine q_call ?_ ?_ (by kernel_rfl) ?_ ?_; rotate_left 2; (· intro w' hS; go_simp; first | with_reducible rfl | (constructor <;> with_reducible rfl)); (refine ⟨_, fun w' hw => (object_any _ _ _ _ _ _ _ _ _ _ _ _ _ _ w').mono fun _ _ h => ⟨h.1, hw.trans' h.2⟩, ?_⟩); (try simp only [Act.put, List.setIfInBounds_toArray, List.set_cons_zero, List.set_cons_succ]))
    iterate 2 (refine q_take ?_ (by kernel_rfl) ?_ ?_; rotate_left; (· intro w' hS; go_simp; try with_reducible rfl); (try simp only [Act.put, List.setIfInBounds_toArray, List.set_cons_zero, List.set_cons_succ]))
    (refine q_load (by kernel_rfl) rfl rfl (fun w' hw => Fr.heap hw hb8 not_false) (by kernel_rfl) (by kernel_rfl) ?_; (try simp only [Act.put, List.setIfInBounds_toArray, List.set_cons_zero, List.set_cons_succ]))
    (refine q_load (by kernel_rfl) rfl rfl (fun w' hw => Fr.heap hw hb11 not_false) (by kernel_rfl) (by kernel_rfl) ?_; (try simp only [Act.put, List.setIfInBounds_toArray, List.set_cons_zero, List.set_cons_succ]))
    (refine q_call ?_ ?_ (by kernel_rfl) ?_ ?_; rotate_left 2; (· intro w' hS; go_simp; first | with_reducible rfl | (constructor <;> with_reducible rfl)); (refine ⟨_, fun w' hw => (object_any _ _ _ _ _ _ _ _ _ _ _ _ _ _ w').mono fun _ _ h => ⟨h.1, hw.trans' h.2⟩, ?_⟩); (try simp only [Act.put, List.setIfInBounds_toArray, List.set_cons_zero, List.set_cons_succ]))
    iterate 2 (refine q_take ?_ (by kernel_rfl) ?_ ?_; rotate_left; (· intro w' hS; go_simp; try with_reducible rfl); (try simp only [Act.put, List.setIfInBounds_toArray, List.set_cons_zero, List.set_cons_succ]))
    (refine q_load (by kernel_rfl) rfl rfl (fun w' hw => Fr.heap hw hb8 not_false) (by kernel_rfl) (by kernel_rfl) ?_; (try simp only [Act.put, List.setIfInBounds_toArray, List.set_cons_zero, List.set_cons_succ]))
    (refine q_load (by kernel_rfl) rfl rfl (fun w' hw => Fr.heap hw hb11 not_false) (by kernel_rfl) (by kernel_rfl) ?_; (try simp only [Act.put, List.setIfInBounds_toArray, List.set_cons_zero, List.set_cons_succ]))
    (refine q_call ?_ ?_ (by kernel_rfl) ?_ ?_; rotate_left 2; (· intro w' hS; go_simp; first | with_reducible rfl | (constructor <;> with_reducible rfl)); (refine ⟨_, fun w' hw => (object_any _ _ _ _ _ _ _ _ _ _ _ _ _ _ w').mono fun _ _ h => ⟨h.1, hw.trans' h.2⟩, ?_⟩); (try simp only [Act.put, List.setIfInBounds_toArray, List.set_cons_zero, List.set_cons_succ]))
    iterate 2 (refine q_take ?_ (by kernel_rfl) ?_ ?_; rotate_left; (· intro w' hS; go_simp; try with_reducible rfl); (try simp only [Act.put, List.setIfInBounds_toArray, List.set_cons_zero, List.set_cons_succ]))
    (refine q_load (by kernel_rfl) rfl rfl (fun w' hw => Fr.heap hw hb8 not_false) (by kernel_rfl) (by kernel_rfl) ?_; (try simp only [Act.put, List.setIfInBounds_toArray, List.set_cons_zero, List.set_cons_succ]))
    (refine q_load (by kernel_rfl) rfl rfl (fun w' hw => Fr.heap hw hb11 not_false) (by kernel_rfl) (by kernel_rfl) ?_; (try simp only [Act.put, List.setIfInBounds_toArray, List.set_cons_zero, List.set_cons_succ]))
    (refine q_call ?_ ?_ (by kernel_rfl) ?_ ?_; rotate_left 2; (· intro w' hS; go_simp; first | with_reducible rfl | (constructor <;> with_reducible rfl)); (refine ⟨_, fun w' hw => (object_any _ _ _ _ _ _ _ _ _ _ _ _ _ _ w').mono fun _ _ h => ⟨h.1, hw.trans' h.2⟩, ?_⟩); (try simp only [Act.put, List.setIfInBounds_toArray, List.set_cons_zero, List.set_cons_succ]))
    iterate 4 (refine q_take ?_ (by kernel_rfl) ?_ ?_; rotate_left; (· intro w' hS; go_simp; try with_reducible rfl); (try simp only [Act.put, List.setIfInBounds_toArray, List.set_cons_zero, List.set_cons_succ]))
    (refine q_load (by kernel_rfl) rfl rfl (fun w' hw => Fr.heap hw hb8 not_false) (by kernel_rfl) (by kernel_rfl) ?_; (try simp only [Act.put, List.setIfInBounds_toArray, List.set_cons_zero, List.set_cons_succ]))
    (refine q_load (by kernel_rfl) rfl rfl (fun w' hw => Fr.heap hw hb11 not_false) (by kernel_rfl) (by kernel_rfl) ?_; (try simp only [Act.put, List.setIfInBounds_toArray, List.set_cons_zero, List.set_cons_succ]))
    (refine q_call ?_ ?_ (by kernel_rfl) ?_ ?_; rotate_left 2; (· intro w' hS; go_simp; first | with_reducible rfl | (constructor <;> with_reducible rfl)); (refine ⟨_, fun w' hw => (object_any _ _ _ _ _ _ _ _ _ _ _ _ _ _ w').mono fun _ _ h => ⟨h.1, hw.trans' h.2⟩, ?_⟩); (try simp only [Act.put, List.setIfInBounds_toArray, List.set_cons_zero, List.set_cons_succ]))
    iterate 3 (refine q_take ?_ (by kernel_rfl) ?_ ?_; rotate_left; (· intro w' hS; go_simp; try with_reducible rfl); (try simp only [Act.put, List.setIfInBounds_toArray, List.set_cons_zero, List.set_cons_succ]))
    (refine q_load (by kernel_rfl) rfl rfl (fun w' hw => Fr.heap hw hb8 not_false) (by kernel_rfl) (by kernel_rfl) ?_; (try simp only [Act.put, List.setIfInBounds_toArray, List.set_cons_zero, List.set_cons_succ]))
    (refine q_load (by kernel_rfl) rfl rfl (fun w' hw => Fr.heap hw hb11 not_false) (by kernel_rfl) (by kernel_rfl) ?_; (try simp only [Act.put, List.setIfInBounds_toArray, List.set_cons_zero, List.set_cons_succ]))
    (refine q_load (by kernel_rfl) rfl rfl (fun w' hw => Fr.heap hw hb11 not_false) (by kernel_rfl) (by kernel_rfl) ?_; (try simp only [Act.put, List.setIfInBounds_toArray, List.set_cons_zero, List.set_cons_succ]))
    (refine q_call ?_ ?_ (by kernel_rfl) ?_ ?_; rotate_left 2; (· intro w' hS; go_simp; first | with_reducible rfl | (constructor <;> with_reducible rfl)); (refine ⟨_, fun w' hw => (two_any _ _ _ _ _ _ _ _ _ _ _ _ _ _ _ _ _ _ _ _ _ _ _ _ w').mono fun _ _ h => ⟨h.1, hw.trans' h.2⟩, ?_⟩); (try simp only [Act.put, List.setIfInBounds_toArray, List.set_cons_zero, List.set_cons_succ]))
    iterate 4 (refine q_take ?_ (by kernel_rfl) ?_ ?_; rotate_left; (· intro w' hS; go_simp; try with_reducible rfl); (try simp only [Act.put, List.setIfInBounds_toArray, List.set_cons_zero, List.set_cons_succ]))
    (refine q_load (by kernel_rfl) rfl rfl (fun w' hw => Fr.heap hw hb8 not_false) (by kernel_rfl) (by kernel_rfl) ?_; (try simp only [Act.put, List.setIfInBounds_toArray, List.set_cons_zero, List.set_cons_succ]))
    (refine q_load (by kernel_rfl) rfl rfl (fun w' hw => Fr.heap hw hb11 not_false) (by kernel_rfl) (by kernel_rfl) ?_; (try simp only [Act.put, List.setIfInBounds_toArray, List.set_cons_zero, List.set_cons_succ]))
    (refine q_load (by kernel_rfl) rfl rfl (fun w' hw => Fr.heap hw hb11 not_false) (by kernel_rfl) (by kernel_rfl) ?_; (try simp only [Act.put, List.setIfInBounds_toArray, List.set_cons_zero, List.set_cons_succ]))
    (refine q_call ?_ ?_ (by kernel_rfl) ?_ ?_; rotate_left 2; (· intro w' hS; go_simp; first | with_reducible rfl | (constructor <;> with_reducible rfl)); (refine ⟨_, fun w' hw => (two_any _ _ _ _ _ _ _ _ _ _ _ _ _ _ _ _ _ _ _ _ _ _ _ _ w').mono fun _ _ h => ⟨h.1, hw.trans' h.2⟩, ?_⟩); (try simp only [Act.put, List.setIfInBounds_toArray, List.set_cons_zero, List.set_cons_succ]))
    iterate 2 (refine q_take ?_ (by kernel_rfl) ?_ ?_; rotate_left; (· intro w' hS; go_simp; try with_reducible rfl); (try simp only [Act.put, List.setIfInBounds_toArray, List.set_cons_zero, List.set_cons_succ]))
    refine q_end (fun w' hw => ?_)
    go_wp2
    go_ret
    exact ⟨rfl, HF.out.trans' hw⟩
end Go.Proofs.Ytpjlpnnopibclaa
