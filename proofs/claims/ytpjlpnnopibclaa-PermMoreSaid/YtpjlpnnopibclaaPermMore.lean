/- PermMore returns true: the walk. -/
import Derived.Test.YtpjlpnnopibclaaPermSays
import Derived.Test.YtpjlpnnopibclaaGuard
import Derived.Deep.WholeRow
namespace Go.Proofs.Ytpjlpnnopibclaa
open Go.RowKit

theorem slot_more {o1 o2 : Bool} {op sb : Int} (ho : o1 = true → o2 = true) (h : slotB o1 op sb = true) : slotB o2 op sb = true := by
  unfold slotB at *
  grind
theorem verb_more {o1 : Bool} {p1 : Bool} {op vb : Int} (h : verbB o1 p1 op vb = true) : verbB true true op vb = true := by
  unfold verbB at *
  grind
theorem obj_more {o1 w1 p1 : Bool} {op f : Int} (h : objB o1 w1 p1 op f = true) : objB true true true op f = true := by
  unfold objB at *
  grind
theorem two_more {a b c p1 : Bool} {op f : Int} (h : twoB a b c p1 op f = true) : twoB true true true true op f = true := by
  unfold twoB at *
  grind
theorem slot_bits {o1 : Bool} {op sb b : Int} (h : slotB o1 op sb = true) : slotB o1 op (Go.bits BinOp.or IntKind.i64 sb b) = true := by
  have h1 := hasB_or sb b 1
  have h2 := hasB_or sb b 2
  have h3 := hasB_or sb b 0
  unfold slotB at *
  grind
theorem verb_bits {o1 p1 : Bool} {op vb b : Int} (h : verbB o1 p1 op vb = true) : verbB o1 p1 op (Go.bits BinOp.or IntKind.i64 vb b) = true := by
  have h1 := hasB_or vb b 1
  have h2 := hasB_or vb b 2
  have h3 := hasB_or vb b 4
  unfold verbB at *
  grind

theorem setRow_new (w : World) (g : Nat) (c c' : Array Value) (t : TypeId) (hg : g = w.heap.size) : (w.alloc (.cells c t)).setRow g c' = w.alloc (.cells c' t) := by
  subst hg
  exact World.setRow_alloc_new w c c' t

set_option maxRecDepth 100000 in
set_option maxHeartbeats 16000000 in
theorem permMore_any (id op bt : Int) (wz pr : Bool) (so sb : Int) (x0 x3 x4 x5 x6 x7 : Value) (vo vb : Int) (y0 y3 y4 : Value) (oi oo of : Int) (o1 o3 o5 o6 o7 o8 o9 : Value) (pi po pf : Int) (p1 p3 p5 p6 p7 p8 p9 : Value) (w : World)
    (hx : #[x0, .int .i64 so, .int .i64 (sb : Int), x3, x4, x5, x6, x7].all (·.oneCell') = true) (hy : #[y0, .int .i64 vo, .int .i64 (vb : Int), y3, y4].all (·.oneCell') = true) :
    Calls Try.prog 5 #[whoV id wz pr, .int .i64 op, .int .i64 bt, .agg #[x0, .int .i64 so, .int .i64 sb, x3, x4, x5, x6, x7], .agg #[y0, .int .i64 vo, .int .i64 vb, y3, y4], .agg #[.int .i64 oi, o1, .int .i64 oo, o3, .int .i64 of, o5, o6, o7, o8, o9], .agg #[.int .i64 pi, p1, .int .i64 po, p3, .int .i64 pf, p5, p6, p7, p8, p9]] w fun e w' => e = .returned (.bool true) ∧ Fr (fun _ => False) w w' := by
  have A1 : ∀ x, ownsB id true x = true := fun x => by simp [ownsB]
  go_enter Try.func5, Try.ntmps5
  go_upto_region 5 with (go_at_call 8; refine (first_any _).mono ?_; rintro e w1 ⟨rfl, hf1⟩; obtain ⟨hb7, hb10, hb11, hb12, hb13⟩ := boxes5 hf1; have F1 := ((((((Fr.refl (fun _ => False) w).alloc _).alloc _).alloc _).alloc _).alloc _).trans' hf1; clear hf1; have d0 := cell_of_row w1 w.heap.size 0 _ _ _ hb7; simp only [List.getElem?_toArray, List.getElem?_cons_zero] at d0)
  have hb16 : (w1.alloc (.cells #[.int .i64 id, .bool true, .bool true] 25)).heap[w1.heap.size]? = some (.cells #[.int .i64 id, .bool true, .bool true] 25) := heap_alloc_new w1 _
  have G : Fr (fun _ => False) w1 (w1.alloc (.cells #[.int .i64 id, .bool true, .bool true] 25)) := (Fr.refl _ _).alloc _
  replace hb7 := G.heap hb7 not_false
  replace hb10 := G.heap hb10 not_false
  replace hb11 := G.heap hb11 not_false
  replace hb12 := G.heap hb12 not_false
  replace hb13 := G.heap hb13 not_false
  have F2 := F1.trans' G
  have HF := hid F2; clear F2 F1 G d0
  generalize w1.alloc (.cells #[.int .i64 id, .bool true, .bool true] 25) = W0 at *
  have q1 : slotB (ownsB id wz so) op sb = true → slotB true op sb = true := slot_more (fun _ => rfl)
  have q2 : verbB (ownsB id wz vo) pr op vb = true → verbB true true op vb = true := verb_more
  have q3 : objB (ownsB id wz oo) wz pr op of = true → objB true true true op of = true := obj_more
  have q4 : twoB (ownsB id wz oi) (ownsB id wz oo) (ownsB id wz po) pr op pf = true → twoB true true true true op pf = true := two_more
  have q5 : slotB (ownsB id wz so) op sb = true → slotB (ownsB id wz so) op (Go.bits BinOp.or IntKind.i64 sb bt) = true := slot_bits
  have q6 : verbB (ownsB id wz vo) pr op vb = true → verbB (ownsB id wz vo) pr op (Go.bits BinOp.or IntKind.i64 vb bt) = true := verb_bits
  generalize k1 : slotB (ownsB id wz so) op sb = c1 at *
  generalize k2 : verbB (ownsB id wz vo) pr op vb = c2 at *
  generalize k3 : objB (ownsB id wz oo) wz pr op of = c3 at *
  generalize k4 : twoB (ownsB id wz oi) (ownsB id wz oo) (ownsB id wz po) pr op pf = c4 at *
  refine wp_region_cls0 (fun w' => Fr (fun _ => False) W0 w') (Fr.refl _ _) ?_
  (refine q_load (by kernel_rfl) rfl rfl (fun w' hw => Fr.heap hw hb7 not_false) (by kernel_rfl) (by kernel_rfl) ?_; (try simp only [Act.put, List.setIfInBounds_toArray, List.set_cons_zero, List.set_cons_succ]))
  (refine q_take ?_ (by kernel_rfl) ?_ ?_; rotate_left; (· intro w' hS; go_simp; try with_reducible rfl); (try simp only [Act.put, List.setIfInBounds_toArray, List.set_cons_zero, List.set_cons_succ]))
  (refine q_load (by kernel_rfl) rfl rfl (fun w' hw => Fr.heap hw hb10 not_false) (by kernel_rfl) (by kernel_rfl) ?_; (try simp only [Act.put, List.setIfInBounds_toArray, List.set_cons_zero, List.set_cons_succ]))
  (refine q_call ?_ ?_ (by kernel_rfl) ?_ ?_; rotate_left 2; (· intro w' hS; go_simp; first | with_reducible rfl | (constructor <;> with_reducible rfl)); (refine ⟨_, fun w' hw => (slot_any _ _ _ _ _ _ _ _ _ _ _ _ w').mono fun _ _ h => ⟨h.1, hw.trans' h.2⟩, ?_⟩); (try simp only [Act.put, List.setIfInBounds_toArray, List.set_cons_zero, List.set_cons_succ]))
  rw [k1]
  (refine q_take ?_ (by kernel_rfl) ?_ ?_; rotate_left; (· intro w' hS; go_simp; try with_reducible rfl); (try simp only [Act.put, List.setIfInBounds_toArray, List.set_cons_zero, List.set_cons_succ]))
  (refine q_gload c1 (by cases c1 <;> rfl) rfl rfl (fun w' hw => Fr.heap hw hb16 not_false) (by kernel_rfl) (by kernel_rfl) (fun ua hua => ?_); (try simp only [Act.put, List.setIfInBounds_toArray, List.set_cons_zero, List.set_cons_succ]))
  (refine q_gtake c1 (.int .i64 op) (by cases c1 <;> rfl) ?_ (fun ub hub => ?_); (· intro hc w' hS; go_simp); (try simp only [Act.put, List.setIfInBounds_toArray, List.set_cons_zero, List.set_cons_succ]))
  (refine q_gload c1 (by cases c1 <;> rfl) rfl rfl (fun w' hw => Fr.heap hw hb10 not_false) (by kernel_rfl) (by kernel_rfl) (fun uc0 huc0 => ?_); (try simp only [Act.put, List.setIfInBounds_toArray, List.set_cons_zero, List.set_cons_succ]))
  (refine q_gcall c1 ?_ ?_ (by cases c1 <;> rfl) ?_ ?_; rotate_left 2; (· intro hc w' hS; rw [hua hc, hub hc, huc0 hc]; go_simp; first | with_reducible rfl | (constructor <;> with_reducible rfl)); (refine ⟨_, fun hc w' hw => (slot_any _ _ _ _ _ _ _ _ _ _ _ _ w').mono fun _ _ h => ⟨h.1, hw.trans' h.2⟩, fun ud hud => ?_⟩); (try simp only [Act.put, List.setIfInBounds_toArray, List.set_cons_zero, List.set_cons_succ]))
  (refine q_gtake c1 (.bool (!slotB true op sb)) (by cases c1 <;> rfl) ?_ (fun ue hue => ?_); (· intro hc w' hS; rw [hud hc]; go_simp); (try simp only [Act.put, List.setIfInBounds_toArray, List.set_cons_zero, List.set_cons_succ]))
  (refine q_take (.bool false) (by kernel_rfl) (fun w' hS => ?_) ?_; (· clear hS; cases c1 with | false => go_simp | true => (rw [hue rfl, q1 rfl]; go_simp)); (try simp only [Act.put, List.setIfInBounds_toArray, List.set_cons_zero, List.set_cons_succ]))
  clear hue hud hub hua huc0
  (refine q_take ?_ (by kernel_rfl) ?_ ?_; rotate_left; (· intro w' hS; go_simp; try with_reducible rfl); (try simp only [Act.put, List.setIfInBounds_toArray, List.set_cons_zero, List.set_cons_succ]))
  (refine q_load (by kernel_rfl) rfl rfl (fun w' hw => Fr.heap hw hb7 not_false) (by kernel_rfl) (by kernel_rfl) ?_; (try simp only [Act.put, List.setIfInBounds_toArray, List.set_cons_zero, List.set_cons_succ]))
  (refine q_take ?_ (by kernel_rfl) ?_ ?_; rotate_left; (· intro w' hS; go_simp; try with_reducible rfl); (try simp only [Act.put, List.setIfInBounds_toArray, List.set_cons_zero, List.set_cons_succ]))
  (refine q_load (by kernel_rfl) rfl rfl (fun w' hw => Fr.heap hw hb11 not_false) (by kernel_rfl) (by kernel_rfl) ?_; (try simp only [Act.put, List.setIfInBounds_toArray, List.set_cons_zero, List.set_cons_succ]))
  (refine q_call ?_ ?_ (by kernel_rfl) ?_ ?_; rotate_left 2; (· intro w' hS; go_simp; first | with_reducible rfl | (constructor <;> with_reducible rfl)); (refine ⟨_, fun w' hw => (verb_any _ _ _ _ _ _ _ _ _ w').mono fun _ _ h => ⟨h.1, hw.trans' h.2⟩, ?_⟩); (try simp only [Act.put, List.setIfInBounds_toArray, List.set_cons_zero, List.set_cons_succ]))
  rw [k2]
  (refine q_take ?_ (by kernel_rfl) ?_ ?_; rotate_left; (· intro w' hS; go_simp; try with_reducible rfl); (try simp only [Act.put, List.setIfInBounds_toArray, List.set_cons_zero, List.set_cons_succ]))
  (refine q_gload c2 (by cases c2 <;> rfl) rfl rfl (fun w' hw => Fr.heap hw hb16 not_false) (by kernel_rfl) (by kernel_rfl) (fun ua hua => ?_); (try simp only [Act.put, List.setIfInBounds_toArray, List.set_cons_zero, List.set_cons_succ]))
  (refine q_gtake c2 (.int .i64 op) (by cases c2 <;> rfl) ?_ (fun ub hub => ?_); (· intro hc w' hS; go_simp); (try simp only [Act.put, List.setIfInBounds_toArray, List.set_cons_zero, List.set_cons_succ]))
  (refine q_gload c2 (by cases c2 <;> rfl) rfl rfl (fun w' hw => Fr.heap hw hb11 not_false) (by kernel_rfl) (by kernel_rfl) (fun uc0 huc0 => ?_); (try simp only [Act.put, List.setIfInBounds_toArray, List.set_cons_zero, List.set_cons_succ]))
  (refine q_gcall c2 ?_ ?_ (by cases c2 <;> rfl) ?_ ?_; rotate_left 2; (· intro hc w' hS; rw [hua hc, hub hc, huc0 hc]; go_simp; first | with_reducible rfl | (constructor <;> with_reducible rfl)); (refine ⟨_, fun hc w' hw => (verb_any _ _ _ _ _ _ _ _ _ w').mono fun _ _ h => ⟨h.1, hw.trans' h.2⟩, fun ud hud => ?_⟩); (try simp only [Act.put, List.setIfInBounds_toArray, List.set_cons_zero, List.set_cons_succ]))
  (refine q_gtake c2 (.bool (!verbB true true op vb)) (by cases c2 <;> rfl) ?_ (fun ue hue => ?_); (· intro hc w' hS; rw [hud hc]; go_simp); (try simp only [Act.put, List.setIfInBounds_toArray, List.set_cons_zero, List.set_cons_succ]))
  (refine q_take (.bool false) (by kernel_rfl) (fun w' hS => ?_) ?_; (· clear hS; cases c2 with | false => go_simp | true => (rw [hue rfl, q2 rfl]; go_simp)); (try simp only [Act.put, List.setIfInBounds_toArray, List.set_cons_zero, List.set_cons_succ]))
  clear hue hud hub hua huc0
  (refine q_take ?_ (by kernel_rfl) ?_ ?_; rotate_left; (· intro w' hS; go_simp; try with_reducible rfl); (try simp only [Act.put, List.setIfInBounds_toArray, List.set_cons_zero, List.set_cons_succ]))
  (refine q_take ?_ (by kernel_rfl) ?_ ?_; rotate_left; (· intro w' hS; go_simp; try with_reducible rfl); (try simp only [Act.put, List.setIfInBounds_toArray, List.set_cons_zero, List.set_cons_succ]))
  (refine q_load (by kernel_rfl) rfl rfl (fun w' hw => Fr.heap hw hb7 not_false) (by kernel_rfl) (by kernel_rfl) ?_; (try simp only [Act.put, List.setIfInBounds_toArray, List.set_cons_zero, List.set_cons_succ]))
  (refine q_take ?_ (by kernel_rfl) ?_ ?_; rotate_left; (· intro w' hS; go_simp; try with_reducible rfl); (try simp only [Act.put, List.setIfInBounds_toArray, List.set_cons_zero, List.set_cons_succ]))
  (refine q_load (by kernel_rfl) rfl rfl (fun w' hw => Fr.heap hw hb12 not_false) (by kernel_rfl) (by kernel_rfl) ?_; (try simp only [Act.put, List.setIfInBounds_toArray, List.set_cons_zero, List.set_cons_succ]))
  (refine q_call ?_ ?_ (by kernel_rfl) ?_ ?_; rotate_left 2; (· intro w' hS; go_simp; first | with_reducible rfl | (constructor <;> with_reducible rfl)); (refine ⟨_, fun w' hw => (object_any _ _ _ _ _ _ _ _ _ _ _ _ _ _ w').mono fun _ _ h => ⟨h.1, hw.trans' h.2⟩, ?_⟩); (try simp only [Act.put, List.setIfInBounds_toArray, List.set_cons_zero, List.set_cons_succ]))
  rw [k3]
  (refine q_take ?_ (by kernel_rfl) ?_ ?_; rotate_left; (· intro w' hS; go_simp; try with_reducible rfl); (try simp only [Act.put, List.setIfInBounds_toArray, List.set_cons_zero, List.set_cons_succ]))
  (refine q_gload c3 (by cases c3 <;> rfl) rfl rfl (fun w' hw => Fr.heap hw hb16 not_false) (by kernel_rfl) (by kernel_rfl) (fun ua hua => ?_); (try simp only [Act.put, List.setIfInBounds_toArray, List.set_cons_zero, List.set_cons_succ]))
  (refine q_gtake c3 (.int .i64 op) (by cases c3 <;> rfl) ?_ (fun ub hub => ?_); (· intro hc w' hS; go_simp); (try simp only [Act.put, List.setIfInBounds_toArray, List.set_cons_zero, List.set_cons_succ]))
  (refine q_gload c3 (by cases c3 <;> rfl) rfl rfl (fun w' hw => Fr.heap hw hb12 not_false) (by kernel_rfl) (by kernel_rfl) (fun uc0 huc0 => ?_); (try simp only [Act.put, List.setIfInBounds_toArray, List.set_cons_zero, List.set_cons_succ]))
  (refine q_gcall c3 ?_ ?_ (by cases c3 <;> rfl) ?_ ?_; rotate_left 2; (· intro hc w' hS; rw [hua hc, hub hc, huc0 hc]; go_simp; first | with_reducible rfl | (constructor <;> with_reducible rfl)); (refine ⟨_, fun hc w' hw => (object_any _ _ _ _ _ _ _ _ _ _ _ _ _ _ w').mono fun _ _ h => ⟨h.1, hw.trans' h.2⟩, fun ud hud => ?_⟩); (try simp only [Act.put, List.setIfInBounds_toArray, List.set_cons_zero, List.set_cons_succ]))
  (refine q_gtake c3 (.bool (!objB true true true op of)) (by cases c3 <;> rfl) ?_ (fun ue hue => ?_); (· intro hc w' hS; rw [hud hc]; go_simp); (try simp only [Act.put, List.setIfInBounds_toArray, List.set_cons_zero, List.set_cons_succ]))
  (refine q_take (.bool false) (by kernel_rfl) (fun w' hS => ?_) ?_; (· clear hS; cases c3 with | false => go_simp | true => (rw [hue rfl, q3 rfl]; go_simp)); (try simp only [Act.put, List.setIfInBounds_toArray, List.set_cons_zero, List.set_cons_succ]))
  clear hue hud hub hua huc0
  (refine q_take ?_ (by kernel_rfl) ?_ ?_; rotate_left; (· intro w' hS; go_simp; try with_reducible rfl); (try simp only [Act.put, List.setIfInBounds_toArray, List.set_cons_zero, List.set_cons_succ]))
  (refine q_take ?_ (by kernel_rfl) ?_ ?_; rotate_left; (· intro w' hS; go_simp; try with_reducible rfl); (try simp only [Act.put, List.setIfInBounds_toArray, List.set_cons_zero, List.set_cons_succ]))
  (refine q_load (by kernel_rfl) rfl rfl (fun w' hw => Fr.heap hw hb7 not_false) (by kernel_rfl) (by kernel_rfl) ?_; (try simp only [Act.put, List.setIfInBounds_toArray, List.set_cons_zero, List.set_cons_succ]))
  (refine q_take ?_ (by kernel_rfl) ?_ ?_; rotate_left; (· intro w' hS; go_simp; try with_reducible rfl); (try simp only [Act.put, List.setIfInBounds_toArray, List.set_cons_zero, List.set_cons_succ]))
  (refine q_load (by kernel_rfl) rfl rfl (fun w' hw => Fr.heap hw hb12 not_false) (by kernel_rfl) (by kernel_rfl) ?_; (try simp only [Act.put, List.setIfInBounds_toArray, List.set_cons_zero, List.set_cons_succ]))
  (refine q_load (by kernel_rfl) rfl rfl (fun w' hw => Fr.heap hw hb13 not_false) (by kernel_rfl) (by kernel_rfl) ?_; (try simp only [Act.put, List.setIfInBounds_toArray, List.set_cons_zero, List.set_cons_succ]))
  (refine q_call ?_ ?_ (by kernel_rfl) ?_ ?_; rotate_left 2; (· intro w' hS; go_simp; first | with_reducible rfl | (constructor <;> with_reducible rfl)); (refine ⟨_, fun w' hw => (two_any _ _ _ _ _ _ _ _ _ _ _ _ _ _ _ _ _ _ _ _ _ _ _ _ w').mono fun _ _ h => ⟨h.1, hw.trans' h.2⟩, ?_⟩); (try simp only [Act.put, List.setIfInBounds_toArray, List.set_cons_zero, List.set_cons_succ]))
  rw [k4]
  (refine q_take ?_ (by kernel_rfl) ?_ ?_; rotate_left; (· intro w' hS; go_simp; try with_reducible rfl); (try simp only [Act.put, List.setIfInBounds_toArray, List.set_cons_zero, List.set_cons_succ]))
  (refine q_gload c4 (by cases c4 <;> rfl) rfl rfl (fun w' hw => Fr.heap hw hb16 not_false) (by kernel_rfl) (by kernel_rfl) (fun ua hua => ?_); (try simp only [Act.put, List.setIfInBounds_toArray, List.set_cons_zero, List.set_cons_succ]))
  (refine q_gtake c4 (.int .i64 op) (by cases c4 <;> rfl) ?_ (fun ub hub => ?_); (· intro hc w' hS; go_simp); (try simp only [Act.put, List.setIfInBounds_toArray, List.set_cons_zero, List.set_cons_succ]))
  (refine q_gload c4 (by cases c4 <;> rfl) rfl rfl (fun w' hw => Fr.heap hw hb12 not_false) (by kernel_rfl) (by kernel_rfl) (fun uc0 huc0 => ?_); (try simp only [Act.put, List.setIfInBounds_toArray, List.set_cons_zero, List.set_cons_succ]))
  (refine q_gload c4 (by cases c4 <;> rfl) rfl rfl (fun w' hw => Fr.heap hw hb13 not_false) (by kernel_rfl) (by kernel_rfl) (fun uc1 huc1 => ?_); (try simp only [Act.put, List.setIfInBounds_toArray, List.set_cons_zero, List.set_cons_succ]))
  (refine q_gcall c4 ?_ ?_ (by cases c4 <;> rfl) ?_ ?_; rotate_left 2; (· intro hc w' hS; rw [hua hc, hub hc, huc0 hc, huc1 hc]; go_simp; first | with_reducible rfl | (constructor <;> with_reducible rfl)); (refine ⟨_, fun hc w' hw => (two_any _ _ _ _ _ _ _ _ _ _ _ _ _ _ _ _ _ _ _ _ _ _ _ _ w').mono fun _ _ h => ⟨h.1, hw.trans' h.2⟩, fun ud hud => ?_⟩); (try simp only [Act.put, List.setIfInBounds_toArray, List.set_cons_zero, List.set_cons_succ]))
  (refine q_gtake c4 (.bool (!twoB true true true true op pf)) (by cases c4 <;> rfl) ?_ (fun ue hue => ?_); (· intro hc w' hS; rw [hud hc]; go_simp); (try simp only [Act.put, List.setIfInBounds_toArray, List.set_cons_zero, List.set_cons_succ]))
  (refine q_take (.bool false) (by kernel_rfl) (fun w' hS => ?_) ?_; (· clear hS; cases c4 with | false => go_simp | true => (rw [hue rfl, q4 rfl]; go_simp)); (try simp only [Act.put, List.setIfInBounds_toArray, List.set_cons_zero, List.set_cons_succ]))
  clear hue hud hub hua huc0 huc1
  (refine q_take ?_ (by kernel_rfl) ?_ ?_; rotate_left; (· intro w' hS; go_simp; try with_reducible rfl); (try simp only [Act.put, List.setIfInBounds_toArray, List.set_cons_zero, List.set_cons_succ]))
  refine q_end (fun W1 hw => ?_)
  replace HF := hid (HF.out.trans' hw)
  replace hb7 := hw.heap hb7 not_false
  replace hb10 := hw.heap hb10 not_false
  replace hb11 := hw.heap hb11 not_false
  clear hb12 hb13 hb16 hw q1 q2 q3 q4 k3 k4
  have hbW : (W1.alloc (.cells #[x0, .int .i64 so, .int .i64 (Go.bits BinOp.or IntKind.i64 sb bt), x3, x4, x5, x6, x7] 30)).heap[w.heap.size + 1 + 1]? = some (.cells #[y0, .int .i64 vo, .int .i64 vb, y3, y4] 33) := ((Fr.refl (fun _ => False) W1).alloc _).heap hb11 not_false
  go_upto_region 7 with fail
  refine wp_region_lit ?_
  refine wpList_load_row rfl 30 _ rfl _ rfl _ _ _ _ hb10 Try.underlying30 rfl (by kernel_rfl) ?_
  (try simp only [Act.put, List.setIfInBounds_toArray, List.set_cons_zero, List.set_cons_succ])
  refine wpList_plain rfl fun K hK => ?_
  go_simp
  refine hK _ _ ?_
  clear hK K
  (try simp only [Act.put, List.setIfInBounds_toArray, List.set_cons_zero, List.set_cons_succ])
  refine wpList_store_row rfl 30 _ _ rfl _ _ rfl rfl _ _ (heap_alloc_new W1 _) (by kernel_rfl) rfl hx ?_
  rw [World.setRow_alloc_new]
  (try simp only [Act.put, List.setIfInBounds_toArray, List.set_cons_zero, List.set_cons_succ])
  unfold wpList
  go_upto_region 9 with fail
  refine wp_region_lit ?_
  refine wpList_load_row rfl 33 _ rfl _ rfl _ _ _ _ hbW Try.underlying33 rfl (by kernel_rfl) ?_
  (try simp only [Act.put, List.setIfInBounds_toArray, List.set_cons_zero, List.set_cons_succ])
  refine wpList_plain rfl fun K hK => ?_
  go_simp
  refine hK _ _ ?_
  clear hK K
  (try simp only [Act.put, List.setIfInBounds_toArray, List.set_cons_zero, List.set_cons_succ])
  refine wpList_store_row rfl 33 _ _ rfl _ _ rfl rfl _ _ (box_heap (Fr.refl _ _) _ (by simp)) (by kernel_rfl) rfl hy ?_
  rw [setRow_new (W1.alloc _) (W1.heap.size + 1) _ _ _ (by simp)]
  (try simp only [Act.put, List.setIfInBounds_toArray, List.set_cons_zero, List.set_cons_succ])
  unfold wpList
  go_upto_region 11 with fail
  have G : Fr (fun _ => False) W1 ((W1.alloc (.cells #[x0, .int .i64 so, .int .i64 (Go.bits BinOp.or IntKind.i64 sb bt), x3, x4, x5, x6, x7] 30)).alloc (.cells #[y0, .int .i64 vo, .int .i64 (Go.bits BinOp.or IntKind.i64 vb bt), y3, y4] 33)) := ((Fr.refl _ _).alloc _).alloc _
  have hb17 : ((W1.alloc (.cells #[x0, .int .i64 so, .int .i64 (Go.bits BinOp.or IntKind.i64 sb bt), x3, x4, x5, x6, x7] 30)).alloc (.cells #[y0, .int .i64 vo, .int .i64 (Go.bits BinOp.or IntKind.i64 vb bt), y3, y4] 33)).heap[W1.heap.size]? = some (.cells #[x0, .int .i64 so, .int .i64 (Go.bits BinOp.or IntKind.i64 sb bt), x3, x4, x5, x6, x7] 30) := box_heap ((Fr.refl _ _).alloc _) _ rfl
  have hb18 : ((W1.alloc (.cells #[x0, .int .i64 so, .int .i64 (Go.bits BinOp.or IntKind.i64 sb bt), x3, x4, x5, x6, x7] 30)).alloc (.cells #[y0, .int .i64 vo, .int .i64 (Go.bits BinOp.or IntKind.i64 vb bt), y3, y4] 33)).heap[W1.heap.size + 1]? = some (.cells #[y0, .int .i64 vo, .int .i64 (Go.bits BinOp.or IntKind.i64 vb bt), y3, y4] 33) := box_heap (Fr.refl _ _) _ (by simp)
  replace hb7 := G.heap hb7 not_false
  replace hb10 := G.heap hb10 not_false
  replace hb11 := G.heap hb11 not_false
  replace HF := hid (HF.out.trans' G)
  clear G hbW hx hy
  generalize (W1.alloc (.cells #[x0, .int .i64 so, .int .i64 (Go.bits BinOp.or IntKind.i64 sb bt), x3, x4, x5, x6, x7] 30)).alloc (.cells #[y0, .int .i64 vo, .int .i64 (Go.bits BinOp.or IntKind.i64 vb bt), y3, y4] 33) = W2 at *
  first | refine wp_region_cls0 (fun w' => Fr (fun _ => False) W2 w') (Fr.refl _ _) ?_ | refine wp_region_cls (fun w' => Fr (fun _ => False) W2 w') (by kernel_rfl) (by kernel_rfl) (Fr.refl _ _).drew ?_
  iterate 2 (refine q_take ?_ (by kernel_rfl) ?_ ?_; rotate_left; (· intro w' hS; go_simp; try with_reducible rfl); (try simp only [Act.put, List.setIfInBounds_toArray, List.set_cons_zero, List.set_cons_succ]))
  (refine q_load (by kernel_rfl) rfl rfl (fun w' hw => Fr.heap hw hb7 not_false) (by kernel_rfl) (by kernel_rfl) ?_; (try simp only [Act.put, List.setIfInBounds_toArray, List.set_cons_zero, List.set_cons_succ]))
  (refine q_take ?_ (by kernel_rfl) ?_ ?_; rotate_left; (· intro w' hS; go_simp; try with_reducible rfl); (try simp only [Act.put, List.setIfInBounds_toArray, List.set_cons_zero, List.set_cons_succ]))
  (refine q_load (by kernel_rfl) rfl rfl (fun w' hw => Fr.heap hw hb10 not_false) (by kernel_rfl) (by kernel_rfl) ?_; (try simp only [Act.put, List.setIfInBounds_toArray, List.set_cons_zero, List.set_cons_succ]))
  (refine q_call ?_ ?_ (by kernel_rfl) ?_ ?_; rotate_left 2; (· intro w' hS; go_simp; first | with_reducible rfl | (constructor <;> with_reducible rfl)); (refine ⟨_, fun w' hw => (slot_any _ _ _ _ _ _ _ _ _ _ _ _ w').mono fun _ _ h => ⟨h.1, hw.trans' h.2⟩, ?_⟩); (try simp only [Act.put, List.setIfInBounds_toArray, List.set_cons_zero, List.set_cons_succ]))
  rw [k1]
  iterate 2 (refine q_take ?_ (by kernel_rfl) ?_ ?_; rotate_left; (· intro w' hS; go_simp; try with_reducible rfl); (try simp only [Act.put, List.setIfInBounds_toArray, List.set_cons_zero, List.set_cons_succ]))
  (refine q_gload c1 (by cases c1 <;> rfl) rfl rfl (fun w' hw => Fr.heap hw hb7 not_false) (by kernel_rfl) (by kernel_rfl) (fun ua hua => ?_); (try simp only [Act.put, List.setIfInBounds_toArray, List.set_cons_zero, List.set_cons_succ]))
  (refine q_gtake c1 (.int .i64 op) (by cases c1 <;> rfl) ?_ (fun ub hub => ?_); (· intro hc w' hS; go_simp); (try simp only [Act.put, List.setIfInBounds_toArray, List.set_cons_zero, List.set_cons_succ]))
  (refine q_gload c1 (by cases c1 <;> rfl) rfl rfl (fun w' hw => Fr.heap hw hb17 not_false) (by kernel_rfl) (by kernel_rfl) (fun uc huc => ?_); (try simp only [Act.put, List.setIfInBounds_toArray, List.set_cons_zero, List.set_cons_succ]))
  (refine q_gcall c1 ?_ ?_ (by cases c1 <;> rfl) ?_ ?_; rotate_left 2; (· intro hc w' hS; rw [hua hc, hub hc, huc hc]; go_simp; first | with_reducible rfl | (constructor <;> with_reducible rfl)); (refine ⟨_, fun hc w' hw => (slot_any _ _ _ _ _ _ _ _ _ _ _ _ w').mono fun _ _ h => ⟨h.1, hw.trans' h.2⟩, fun ud hud => ?_⟩); (try simp only [Act.put, List.setIfInBounds_toArray, List.set_cons_zero, List.set_cons_succ]))
  (refine q_take (.bool true) (by kernel_rfl) (fun w' hS => ?_) ?_; (· clear hS; cases c1 with | false => go_simp | true => (rw [hud rfl, q5 rfl]; go_simp)); (try simp only [Act.put, List.setIfInBounds_toArray, List.set_cons_zero, List.set_cons_succ]))
  clear hua hub huc hud
  iterate 2 (refine q_take ?_ (by kernel_rfl) ?_ ?_; rotate_left; (· intro w' hS; go_simp; try with_reducible rfl); (try simp only [Act.put, List.setIfInBounds_toArray, List.set_cons_zero, List.set_cons_succ]))
  (refine q_load (by kernel_rfl) rfl rfl (fun w' hw => Fr.heap hw hb7 not_false) (by kernel_rfl) (by kernel_rfl) ?_; (try simp only [Act.put, List.setIfInBounds_toArray, List.set_cons_zero, List.set_cons_succ]))
  (refine q_take ?_ (by kernel_rfl) ?_ ?_; rotate_left; (· intro w' hS; go_simp; try with_reducible rfl); (try simp only [Act.put, List.setIfInBounds_toArray, List.set_cons_zero, List.set_cons_succ]))
  (refine q_load (by kernel_rfl) rfl rfl (fun w' hw => Fr.heap hw hb11 not_false) (by kernel_rfl) (by kernel_rfl) ?_; (try simp only [Act.put, List.setIfInBounds_toArray, List.set_cons_zero, List.set_cons_succ]))
  (refine q_call ?_ ?_ (by kernel_rfl) ?_ ?_; rotate_left 2; (· intro w' hS; go_simp; first | with_reducible rfl | (constructor <;> with_reducible rfl)); (refine ⟨_, fun w' hw => (verb_any _ _ _ _ _ _ _ _ _ w').mono fun _ _ h => ⟨h.1, hw.trans' h.2⟩, ?_⟩); (try simp only [Act.put, List.setIfInBounds_toArray, List.set_cons_zero, List.set_cons_succ]))
  rw [k2]
  iterate 2 (refine q_take ?_ (by kernel_rfl) ?_ ?_; rotate_left; (· intro w' hS; go_simp; try with_reducible rfl); (try simp only [Act.put, List.setIfInBounds_toArray, List.set_cons_zero, List.set_cons_succ]))
  (refine q_gload c2 (by cases c2 <;> rfl) rfl rfl (fun w' hw => Fr.heap hw hb7 not_false) (by kernel_rfl) (by kernel_rfl) (fun ua hua => ?_); (try simp only [Act.put, List.setIfInBounds_toArray, List.set_cons_zero, List.set_cons_succ]))
  (refine q_gtake c2 (.int .i64 op) (by cases c2 <;> rfl) ?_ (fun ub hub => ?_); (· intro hc w' hS; go_simp); (try simp only [Act.put, List.setIfInBounds_toArray, List.set_cons_zero, List.set_cons_succ]))
  (refine q_gload c2 (by cases c2 <;> rfl) rfl rfl (fun w' hw => Fr.heap hw hb18 not_false) (by kernel_rfl) (by kernel_rfl) (fun uc huc => ?_); (try simp only [Act.put, List.setIfInBounds_toArray, List.set_cons_zero, List.set_cons_succ]))
  (refine q_gcall c2 ?_ ?_ (by cases c2 <;> rfl) ?_ ?_; rotate_left 2; (· intro hc w' hS; rw [hua hc, hub hc, huc hc]; go_simp; first | with_reducible rfl | (constructor <;> with_reducible rfl)); (refine ⟨_, fun hc w' hw => (verb_any _ _ _ _ _ _ _ _ _ w').mono fun _ _ h => ⟨h.1, hw.trans' h.2⟩, fun ud hud => ?_⟩); (try simp only [Act.put, List.setIfInBounds_toArray, List.set_cons_zero, List.set_cons_succ]))
  (refine q_take (.bool true) (by kernel_rfl) (fun w' hS => ?_) ?_; (· clear hS; cases c2 with | false => go_simp | true => (rw [hud rfl, q6 rfl]; go_simp)); (try simp only [Act.put, List.setIfInBounds_toArray, List.set_cons_zero, List.set_cons_succ]))
  clear hua hub huc hud
  iterate 2 (refine q_take ?_ (by kernel_rfl) ?_ ?_; rotate_left; (· intro w' hS; go_simp; try with_reducible rfl); (try simp only [Act.put, List.setIfInBounds_toArray, List.set_cons_zero, List.set_cons_succ]))
  refine q_end (fun w' hw => ?_)
  go_wp2
  go_ret
  exact ⟨rfl, HF.out.trans' hw⟩
end Go.Proofs.Ytpjlpnnopibclaa
