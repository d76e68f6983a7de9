/- Package num: order. -/
import Derived.Test.YtjngddmjgcecnaaNumA
import Derived.Test.YtjngddmjgcecnaaValCmp
namespace Go.Proofs.Ytjngddmjgcecnaa
open Go.RowKit

def isOrd (op : Int) (x y : V) : Bool := if op = 12 then decide (cmpV x y < 0) else if op = 13 then !decide (cmpV y x < 0) else if op = 14 then decide (cmpV y x < 0) else !decide (cmpV x y < 0)
def pOrd (op : Int) (x y : V) : Int × Int := if x.k ≠ y.k ∨ x.k = 4 then (0, 1) else (if isOrd op x y then 1 else 0, 0)
/-- Three new rows, the last one empty. -/
theorem three (A B : Obj) (w : World) : Fr (fun _ => False) w (((w.alloc A).alloc B).alloc (.cells #[.int .i64 0, .int .i64 0, .string ⟨#[]⟩, .slice none 0 0] 24)) ∧ (((w.alloc A).alloc B).alloc (.cells #[.int .i64 0, .int .i64 0, .string ⟨#[]⟩, .slice none 0 0] 24)).heap[w.heap.size + 1 + 1]? = some (.cells #[.int .i64 0, .int .i64 0, .string ⟨#[]⟩, .slice none 0 0] 24) := by
  refine ⟨(((Fr.refl _ _).alloc _).alloc _).alloc _, ?_⟩
  have := heap_alloc_new ((w.alloc A).alloc B) (.cells #[.int .i64 0, .int .i64 0, .string ⟨#[]⟩, .slice none 0 0] 24)
  rwa [show ((w.alloc A).alloc B).heap.size = w.heap.size + 1 + 1 by simp] at this

set_option maxRecDepth 100000 in
set_option maxHeartbeats 800000 in
theorem order_any (op : Int) (hop : op = 12 ∨ op = 13 ∨ op = 14 ∨ op = 15) (x y : V) (hkx : x.kr) (hky : y.kr) (w : World) (u u' : Array Value) (h : VIn T w x u) (h' : VIn T w y u') :
    Calls Try.prog 29 #[.int .i64 op, .agg u, .agg u'] w fun e w' => e = .returned (.tuple #[.agg (cI (pOrd op x y).1), .int .i64 (pOrd op x y).2]) ∧ Fr (fun _ => False) w w' := by
  obtain ⟨v1, rfl, a1, c1, us1, rfl, -⟩ := h.open
  obtain ⟨v2, rfl, a2, c2, us2, rfl, -⟩ := h'.open
  have HX := hid h; have HY := hid h'; have HKX := hid hkx; have HKY := hid hky
  clear h h' hkx hky
  unfold cI
  by_cases hk : x.k = y.k
  rotate_left
  · have hp : pOrd op x y = (0, 1) := by unfold pOrd; rw [if_pos (.inl hk)]
    have q1 : (x.k != y.k) = true := by simpa using hk
    have HP := hid hp
    clear hp hk
    go_enter Try.func29, Try.ntmps29
    go_wp2_with fail
    obtain ⟨hf, hr⟩ := three (.cells #[.int .i64 x.k, .int .i64 x.n, .string x.s, .slice a1 x.l.length c1] 24) (.cells #[.int .i64 y.k, .int .i64 y.n, .string y.s, .slice a2 y.l.length c2] 24) w
    have HF := hid hf; have HR := hid hr
    clear hf hr
    refine (raised_any 1 _).mono ?_
    rintro e w2 ⟨rfl, hf2⟩
    obtain ⟨hR, hf5, z0, z1, z2, z3, zf⟩ := set4 (hf2.heap HR.out not_false) (.int .i64 0) (.int .i64 0) (.string ⟨#[]⟩) (.slice none 0 0)
    have HRR := hid hR
    have HF5 := hid ((HF.out.trans' hf2).trans hf5 (U := fun _ => False) (fun _ _ h => h) (fun q hq e => by omega))
    clear hR hf5 hf2
    go_wp2_with fail
    refine bodyPost_ret (results_ct rfl _ _ (w.heap.size + 1 + 1) _ _ _ _ rfl HRR.out Try.underlying24 rfl (by kernel_rfl)) rfl ?_
    exact ⟨by rw [HP.out]; rfl, HF5.out⟩
  by_cases hk4 : x.k = 4
  · have hp : pOrd op x y = (0, 1) := by unfold pOrd; rw [if_pos (.inr hk4)]
    have q1 : (x.k != y.k) = false := by simpa using hk
    have q2 : (x.k == 4) = true := by simpa using hk4
    have HP := hid hp
    clear hp hk hk4
    go_enter Try.func29, Try.ntmps29
    go_wp2_with fail
    obtain ⟨hf, hr⟩ := three (.cells #[.int .i64 x.k, .int .i64 x.n, .string x.s, .slice a1 x.l.length c1] 24) (.cells #[.int .i64 y.k, .int .i64 y.n, .string y.s, .slice a2 y.l.length c2] 24) w
    have HF := hid hf; have HR := hid hr
    clear hf hr
    refine (raised_any 1 _).mono ?_
    rintro e w2 ⟨rfl, hf2⟩
    obtain ⟨hR, hf5, z0, z1, z2, z3, zf⟩ := set4 (hf2.heap HR.out not_false) (.int .i64 0) (.int .i64 0) (.string ⟨#[]⟩) (.slice none 0 0)
    have HRR := hid hR
    have HF5 := hid ((HF.out.trans' hf2).trans hf5 (U := fun _ => False) (fun _ _ h => h) (fun q hq e => by omega))
    clear hR hf5 hf2
    go_wp2_with fail
    refine bodyPost_ret (results_ct rfl _ _ (w.heap.size + 1 + 1) _ _ _ _ rfl HRR.out Try.underlying24 rfl (by kernel_rfl)) rfl ?_
    exact ⟨by rw [HP.out]; rfl, HF5.out⟩
  have q1 : (x.k != y.k) = false := by simpa using hk
  have q2 : (x.k == 4) = false := by simpa using hk4
  have hp : ∀ op, pOrd op x y = (if isOrd op x y then 1 else 0, 0) := fun op => by unfold pOrd; rw [if_neg (by intro e; rcases e with e | e; exact e hk; exact hk4 e)]
  have HP := hid hp
  clear hp hk hk4
  rcases hop with rfl | rfl | rfl | rfl
  · go_enter Try.func29, Try.ntmps29
    go_wp2_with fail
    obtain ⟨hf, hr⟩ := three (.cells #[.int .i64 x.k, .int .i64 x.n, .string x.s, .slice a1 x.l.length c1] 24) (.cells #[.int .i64 y.k, .int .i64 y.n, .string y.s, .slice a2 y.l.length c2] 24) w
    have HF0 := hid hf
    refine (vless_any x y HKX.out HKY.out T T _ _ _ (HX.out.fr hf) (HY.out.fr hf)).mono ?_
    rintro e w1 ⟨rfl, hf1⟩
    have hr1 := hf1.heap hr not_false
    have HR := hid hr1; have HF := hid (HF0.out.trans' hf1)
    have HB := hid (show isOrd 12 x y = decide (cmpV x y < 0) from rfl)
    generalize decide (cmpV x y < 0) = b at *
    clear hf hr hf1 hr1 HF0
    cases b
    · go_wp2_with fail
      refine (bool_any false _).mono ?_
      rintro e w2 ⟨rfl, hf2⟩
      unfold cI
      obtain ⟨hR, hf5, z0, z1, z2, z3, zf⟩ := set4 (hf2.heap HR.out not_false) (.int .i64 0) (.int .i64 0) (.string ⟨#[]⟩) (.slice none 0 0)
      have HRR := hid hR
      have HF5 := hid ((HF.out.trans' hf2).trans hf5 (U := fun _ => False) (fun _ _ h => h) (fun q hq e => by omega))
      clear hR hf5 hf2
      go_wp2_with fail
      refine bodyPost_ret (results_ct rfl _ _ (w.heap.size + 1 + 1) _ _ _ _ rfl HRR.out Try.underlying24 rfl (by kernel_rfl)) rfl ?_
      exact ⟨by rw [HP.out, HB.out]; rfl, HF5.out⟩
    · go_wp2_with fail
      refine (bool_any true _).mono ?_
      rintro e w2 ⟨rfl, hf2⟩
      unfold cI
      obtain ⟨hR, hf5, z0, z1, z2, z3, zf⟩ := set4 (hf2.heap HR.out not_false) (.int .i64 0) (.int .i64 1) (.string ⟨#[]⟩) (.slice none 0 0)
      have HRR := hid hR
      have HF5 := hid ((HF.out.trans' hf2).trans hf5 (U := fun _ => False) (fun _ _ h => h) (fun q hq e => by omega))
      clear hR hf5 hf2
      go_wp2_with fail
      refine bodyPost_ret (results_ct rfl _ _ (w.heap.size + 1 + 1) _ _ _ _ rfl HRR.out Try.underlying24 rfl (by kernel_rfl)) rfl ?_
      exact ⟨by rw [HP.out, HB.out]; rfl, HF5.out⟩
  · go_enter Try.func29, Try.ntmps29
    go_wp2_with fail
    obtain ⟨hf, hr⟩ := three (.cells #[.int .i64 y.k, .int .i64 y.n, .string y.s, .slice a2 y.l.length c2] 24) (.cells #[.int .i64 x.k, .int .i64 x.n, .string x.s, .slice a1 x.l.length c1] 24) w
    have HF0 := hid hf
    refine (vless_any y x HKY.out HKX.out T T _ _ _ (HY.out.fr hf) (HX.out.fr hf)).mono ?_
    rintro e w1 ⟨rfl, hf1⟩
    have hr1 := hf1.heap hr not_false
    have HR := hid hr1; have HF := hid (HF0.out.trans' hf1)
    have HB := hid (show isOrd 13 x y = !decide (cmpV y x < 0) from rfl)
    generalize decide (cmpV y x < 0) = b at *
    clear hf hr hf1 hr1 HF0
    cases b
    · go_wp2_with fail
      refine (bool_any true _).mono ?_
      rintro e w2 ⟨rfl, hf2⟩
      unfold cI
      obtain ⟨hR, hf5, z0, z1, z2, z3, zf⟩ := set4 (hf2.heap HR.out not_false) (.int .i64 0) (.int .i64 1) (.string ⟨#[]⟩) (.slice none 0 0)
      have HRR := hid hR
      have HF5 := hid ((HF.out.trans' hf2).trans hf5 (U := fun _ => False) (fun _ _ h => h) (fun q hq e => by omega))
      clear hR hf5 hf2
      go_wp2_with fail
      refine bodyPost_ret (results_ct rfl _ _ (w.heap.size + 1 + 1) _ _ _ _ rfl HRR.out Try.underlying24 rfl (by kernel_rfl)) rfl ?_
      exact ⟨by rw [HP.out, HB.out]; rfl, HF5.out⟩
    · go_wp2_with fail
      refine (bool_any false _).mono ?_
      rintro e w2 ⟨rfl, hf2⟩
      unfold cI
      obtain ⟨hR, hf5, z0, z1, z2, z3, zf⟩ := set4 (hf2.heap HR.out not_false) (.int .i64 0) (.int .i64 0) (.string ⟨#[]⟩) (.slice none 0 0)
      have HRR := hid hR
      have HF5 := hid ((HF.out.trans' hf2).trans hf5 (U := fun _ => False) (fun _ _ h => h) (fun q hq e => by omega))
      clear hR hf5 hf2
      go_wp2_with fail
      refine bodyPost_ret (results_ct rfl _ _ (w.heap.size + 1 + 1) _ _ _ _ rfl HRR.out Try.underlying24 rfl (by kernel_rfl)) rfl ?_
      exact ⟨by rw [HP.out, HB.out]; rfl, HF5.out⟩
  · go_enter Try.func29, Try.ntmps29
    go_wp2_with fail
    obtain ⟨hf, hr⟩ := three (.cells #[.int .i64 y.k, .int .i64 y.n, .string y.s, .slice a2 y.l.length c2] 24) (.cells #[.int .i64 x.k, .int .i64 x.n, .string x.s, .slice a1 x.l.length c1] 24) w
    have HF0 := hid hf
    refine (vless_any y x HKY.out HKX.out T T _ _ _ (HY.out.fr hf) (HX.out.fr hf)).mono ?_
    rintro e w1 ⟨rfl, hf1⟩
    have hr1 := hf1.heap hr not_false
    have HR := hid hr1; have HF := hid (HF0.out.trans' hf1)
    have HB := hid (show isOrd 14 x y = decide (cmpV y x < 0) from rfl)
    generalize decide (cmpV y x < 0) = b at *
    clear hf hr hf1 hr1 HF0
    cases b
    · go_wp2_with fail
      refine (bool_any false _).mono ?_
      rintro e w2 ⟨rfl, hf2⟩
      unfold cI
      obtain ⟨hR, hf5, z0, z1, z2, z3, zf⟩ := set4 (hf2.heap HR.out not_false) (.int .i64 0) (.int .i64 0) (.string ⟨#[]⟩) (.slice none 0 0)
      have HRR := hid hR
      have HF5 := hid ((HF.out.trans' hf2).trans hf5 (U := fun _ => False) (fun _ _ h => h) (fun q hq e => by omega))
      clear hR hf5 hf2
      go_wp2_with fail
      refine bodyPost_ret (results_ct rfl _ _ (w.heap.size + 1 + 1) _ _ _ _ rfl HRR.out Try.underlying24 rfl (by kernel_rfl)) rfl ?_
      exact ⟨by rw [HP.out, HB.out]; rfl, HF5.out⟩
    · go_wp2_with fail
      refine (bool_any true _).mono ?_
      rintro e w2 ⟨rfl, hf2⟩
      unfold cI
      obtain ⟨hR, hf5, z0, z1, z2, z3, zf⟩ := set4 (hf2.heap HR.out not_false) (.int .i64 0) (.int .i64 1) (.string ⟨#[]⟩) (.slice none 0 0)
      have HRR := hid hR
      have HF5 := hid ((HF.out.trans' hf2).trans hf5 (U := fun _ => False) (fun _ _ h => h) (fun q hq e => by omega))
      clear hR hf5 hf2
      go_wp2_with fail
      refine bodyPost_ret (results_ct rfl _ _ (w.heap.size + 1 + 1) _ _ _ _ rfl HRR.out Try.underlying24 rfl (by kernel_rfl)) rfl ?_
      exact ⟨by rw [HP.out, HB.out]; rfl, HF5.out⟩
  · go_enter Try.func29, Try.ntmps29
    go_wp2_with fail
    obtain ⟨hf, hr⟩ := three (.cells #[.int .i64 x.k, .int .i64 x.n, .string x.s, .slice a1 x.l.length c1] 24) (.cells #[.int .i64 y.k, .int .i64 y.n, .string y.s, .slice a2 y.l.length c2] 24) w
    have HF0 := hid hf
    refine (vless_any x y HKX.out HKY.out T T _ _ _ (HX.out.fr hf) (HY.out.fr hf)).mono ?_
    rintro e w1 ⟨rfl, hf1⟩
    have hr1 := hf1.heap hr not_false
    have HR := hid hr1; have HF := hid (HF0.out.trans' hf1)
    have HB := hid (show isOrd 15 x y = !decide (cmpV x y < 0) from rfl)
    generalize decide (cmpV x y < 0) = b at *
    clear hf hr hf1 hr1 HF0
    cases b
    · go_wp2_with fail
      refine (bool_any true _).mono ?_
      rintro e w2 ⟨rfl, hf2⟩
      unfold cI
      obtain ⟨hR, hf5, z0, z1, z2, z3, zf⟩ := set4 (hf2.heap HR.out not_false) (.int .i64 0) (.int .i64 1) (.string ⟨#[]⟩) (.slice none 0 0)
      have HRR := hid hR
      have HF5 := hid ((HF.out.trans' hf2).trans hf5 (U := fun _ => False) (fun _ _ h => h) (fun q hq e => by omega))
      clear hR hf5 hf2
      go_wp2_with fail
      refine bodyPost_ret (results_ct rfl _ _ (w.heap.size + 1 + 1) _ _ _ _ rfl HRR.out Try.underlying24 rfl (by kernel_rfl)) rfl ?_
      exact ⟨by rw [HP.out, HB.out]; rfl, HF5.out⟩
    · go_wp2_with fail
      refine (bool_any false _).mono ?_
      rintro e w2 ⟨rfl, hf2⟩
      unfold cI
      obtain ⟨hR, hf5, z0, z1, z2, z3, zf⟩ := set4 (hf2.heap HR.out not_false) (.int .i64 0) (.int .i64 0) (.string ⟨#[]⟩) (.slice none 0 0)
      have HRR := hid hR
      have HF5 := hid ((HF.out.trans' hf2).trans hf5 (U := fun _ => False) (fun _ _ h => h) (fun q hq e => by omega))
      clear hR hf5 hf2
      go_wp2_with fail
      refine bodyPost_ret (results_ct rfl _ _ (w.heap.size + 1 + 1) _ _ _ _ rfl HRR.out Try.underlying24 rfl (by kernel_rfl)) rfl ?_
      exact ⟨by rw [HP.out, HB.out]; rfl, HF5.out⟩
end Go.Proofs.Ytjngddmjgcecnaa
