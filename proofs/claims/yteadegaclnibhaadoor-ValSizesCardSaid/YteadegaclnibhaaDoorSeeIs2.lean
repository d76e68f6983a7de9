/- inglenooksee.Is, at an error and its number: true. -/
import Derived.Test.YteadegaclnibhaaDoorSeeIs
import Derived.Test.YteadegaclnibhaaDoorVValid
namespace Go.Proofs.YteadegaclnibhaaDoor
open Go.RowKit

set_option maxHeartbeats 1600000 in
theorem seesame_any (w : World) (e : Value) (c : Int) (hf : ∀ w', Fr (fun _ => False) w w' → Calls Tryd.prog 31 #[e] w' fun x w'' => x = .returned (bareV c) ∧ Fr (fun _ => False) w' w'') :
    Calls Tryd.prog 24 #[e, bareV c] w fun x w' => x = .returned (.bool true) ∧ Fr (fun _ => False) w w' := by
  have HC := hid hf
  clear hf
  have hb := heap_alloc_new w (.cells #[.int .i64 c, .bool false, .int .i64 0, .int .i64 0, .int .i64 0, .string ⟨#[]⟩, .slice none 0 0] 48)
  have hF := (Fr.refl (fun _ => False) w).alloc (.cells #[.int .i64 c, .bool false, .int .i64 0, .int .i64 0, .int .i64 0, .string ⟨#[]⟩, .slice none 0 0] 48)
  have hsf := fun w' => samefault_any c w'
  have HSF := hid hsf
  clear hsf
  unfold bareV at HC HSF ⊢
  go_enter Tryd.func24, Tryd.ntmps24
  go_upto_region 1 with fail
  generalize w.alloc (.cells #[.int .i64 c, .bool false, .int .i64 0, .int .i64 0, .int .i64 0, .string ⟨#[]⟩, .slice none 0 0] 48) = W at *
  have HF := hid hF
  clear hF
  refine wp_region_cls (fun w' => Fr (fun _ => False) W w') (by kernel_rfl) (by kernel_rfl) (Fr.refl _ _).drew ?_
  (refine q_take ?_ (by kernel_rfl) ?_ ?_; rotate_left; (· intro w' hS; go_simp; try with_reducible rfl); (try simp only [Act.put, List.setIfInBounds_toArray, List.set_cons_zero, List.set_cons_succ]))
  (refine q_call ?_ ?_ (by kernel_rfl) ?_ ?_; rotate_left 2; (· intro w' hS; go_simp; first | with_reducible rfl | (constructor <;> with_reducible rfl)); (refine ⟨_, fun w' hw => (HC.out w' (HF.out.trans' hw)).mono fun _ _ h => ⟨h.1, hw.trans' h.2⟩, ?_⟩); (try simp only [Act.put, List.setIfInBounds_toArray, List.set_cons_zero, List.set_cons_succ]))
  (refine q_load (by kernel_rfl) rfl rfl (fun w' hw => Fr.heap hw hb not_false) (by kernel_rfl) (by kernel_rfl) ?_; (try simp only [Act.put, List.setIfInBounds_toArray, List.set_cons_zero, List.set_cons_succ]))
  (refine q_call ?_ ?_ (by kernel_rfl) ?_ ?_; rotate_left 2; (· intro w' hS; go_simp; first | with_reducible rfl | (constructor <;> with_reducible rfl)); (refine ⟨_, fun w' hw => (HSF.out w').mono fun _ _ h => ⟨h.1, hw.trans' h.2⟩, ?_⟩); (try simp only [Act.put, List.setIfInBounds_toArray, List.set_cons_zero, List.set_cons_succ]))
  (refine q_take ?_ (by kernel_rfl) ?_ ?_; rotate_left; (· intro w' hS; go_simp; try with_reducible rfl); (try simp only [Act.put, List.setIfInBounds_toArray, List.set_cons_zero, List.set_cons_succ]))
  refine q_end (fun W6 hw => ?_)
  have HW := hid (HF.out.trans' hw)
  clear hw
  go_wp2
  go_ret
  exact ⟨rfl, HW.out⟩

set_option maxHeartbeats 1600000 in
theorem seeis_any (w : World) (e : Value) (c : Int) (hf : ∀ w', Fr (fun _ => False) w w' → Calls Tryd.prog 31 #[e] w' fun x w'' => x = .returned (bareV c) ∧ Fr (fun _ => False) w' w'') :
    Calls Tryd.prog 9 #[e, .int .i64 c] w fun x w' => x = .returned (.bool true) ∧ Fr (fun _ => False) w w' := by
  have HC := hid hf
  clear hf
  go_enter Tryd.func9, Tryd.ntmps9
  go_wp2_with fail
  refine (bare_any c w).mono ?_
  rintro x w2 ⟨rfl, hf2⟩
  have hs := seesame_any w2 e c fun w' hw => HC.out w' (hf2.trans' hw)
  have HS := hid hs; have HF2 := hid hf2
  clear hs hf2
  unfold bareV at HS ⊢
  go_wp2_with fail
  refine HS.out.mono ?_
  rintro x w3 ⟨rfl, hf3⟩
  have HF3 := hid (HF2.out.trans' hf3)
  clear hf3
  go_wp2
  go_ret
  exact ⟨rfl, HF3.out⟩

/-- An error's value, out of the errors' addresses. -/
def evA (pa : Nat → Addr) (n : Int) : Value := ev (.iface 71 (.pointer (some (pa 11)))) (.iface 71 (.pointer (some (pa 3)))) (.iface 71 (.pointer (some (pa 4)))) (.iface 71 (.pointer (some (pa 2)))) n
theorem is_any (w : World) (pa : Nat → Addr) (h : Sent17 w pa) (n : Int) (hn : n = 0 ∨ n = 103 ∨ n = 104 ∨ n = 105 ∨ n = 112) : Calls Tryd.prog 9 #[evA pa n, .int .i64 n] w fun x w' => x = .returned (.bool true) ∧ Fr (fun _ => False) w w' := by
  rcases hn with rfl | rfl | rfl | rfl | rfl
  · exact seeis_any w _ 0 fun w' _ => fault_nil w'
  · exact seeis_any w _ 103 fun w' hw => fault_any w' pa (h.frame hw) 2 (by decide)
  · exact seeis_any w _ 104 fun w' hw => fault_any w' pa (h.frame hw) 3 (by decide)
  · exact seeis_any w _ 105 fun w' hw => fault_any w' pa (h.frame hw) 4 (by decide)
  · exact seeis_any w _ 112 fun w' hw => fault_any w' pa (h.frame hw) 11 (by decide)
theorem errs_of {w : World} {pa : Nat → Addr} (h : Sent17 w pa) : Errs w (.iface 71 (.pointer (some (pa 11)))) (.iface 71 (.pointer (some (pa 3)))) (.iface 71 (.pointer (some (pa 4)))) (.iface 71 (.pointer (some (pa 2)))) :=
  ⟨h.s 11 (by decide), h.s 3 (by decide), h.s 4 (by decide), h.s 2 (by decide)⟩
/-- The document's number of a value is one of five. -/
theorem five (n : Int) : n = 0 ∨ n = 103 ∨ n = 104 ∨ n = 105 ∨ n = 112 → True := fun _ => trivial
mutual
theorem V.odd_five : ∀ (x : V) (deep sz : Nat), (x.odd deep sz).1 = 0 ∨ (x.odd deep sz).1 = 103 ∨ (x.odd deep sz).1 = 104 ∨ (x.odd deep sz).1 = 105 ∨ (x.odd deep sz).1 = 112
  | .mk k n s l, deep, sz => by
    have h := oddL_five l (deep + 1) (oddSize k s sz)
    simp only [V.odd]
    repeat' split
    all_goals first | exact h | simp
theorem oddL_five : ∀ (l : List V) (deep sz : Nat), (oddL l deep sz).1 = 0 ∨ (oddL l deep sz).1 = 103 ∨ (oddL l deep sz).1 = 104 ∨ (oddL l deep sz).1 = 105 ∨ (oddL l deep sz).1 = 112
  | [], deep, sz => by simp [oddL]
  | x :: r, deep, sz => by
    have h1 := V.odd_five x deep sz
    have h2 := oddL_five r deep (x.odd deep sz).2
    simp only [oddL]
    split
    · exact h2
    · exact h1
end
end Go.Proofs.YteadegaclnibhaaDoor
