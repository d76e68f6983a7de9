/- Package num: Bool, raised, ints at the chapter's examples; values of one cell. -/
import Derived.Test.YtjngddmjgcecnaaSeqF
import Derived.Test.YtjngddmjgcecnaaRefFits
namespace Go.Proofs.Ytjngddmjgcecnaa
open Go.RowKit

def VI (n : Int) : V := .mk 0 n ⟨#[]⟩ []
theorem VI.inn (D : Nat → Prop) (w : World) (n : Int) : VIn D w (VI n) #[.int .i64 0, .int .i64 n, .string ⟨#[]⟩, .slice none 0 0] := (VL.nil D w).close 0 n ⟨#[]⟩
/-- The four cells of an Int. -/
def cI (n : Int) : Array Value := #[.int .i64 0, .int .i64 n, .string ⟨#[]⟩, .slice none 0 0]
/-- What a call of num gives: a value and a code. -/
def GP (w : World) (x : V) (c : Int) (e : Ending) (w' : World) : Prop := ∃ u, e = .returned (.tuple #[.agg u, .int .i64 c]) ∧ Fr (fun _ => False) w w' ∧ VIn T w' x u
theorem results_c {P : Program} {fn : Func} {p : Tmp} {ty : TypeId} (h : fn.results = #[.cell p ty]) (tmps : Array Value) (w : World) (g : Nat) (t : TypeId) (cs : Array Value) (fr : Nat × Nat) (d : TypeDesc)
    (hp : tmps.getD p undef = .pointer (some ⟨g, 0, none⟩)) (hg : w.heap[g]? = some (.cells cs t fr))
    (hu : P.underlying ty = some d) (hd : (match d with | .struct _ | .array _ _ => true | _ => false) = true) (hi : (P.info? ty).map (·.size) = some cs.size) :
    (results fn tmps).run P w = .ok (.agg cs) w := by
  have hp' : tmps[p]?.getD undef = .pointer (some ⟨g, 0, none⟩) := by simpa using hp
  simp [results, h, hp', asAddr, run_loadVar_row w g t ty cs fr d hg hu hd hi]

theorem raised_any (c : Int) (w : World) : Calls Try.prog 30 #[.int .i64 c] w fun e w' => e = .returned (.tuple #[.agg #[.int .i64 0, .int .i64 0, .string ⟨#[]⟩, .slice none 0 0], .int .i64 c]) ∧ Fr (fun _ => False) w w' := by
  have hF := (Fr.refl (fun _ => False) w).alloc (.cells #[.int .i64 0, .int .i64 0, .string ⟨#[]⟩, .slice none 0 0] 24)
  have hR := heap_alloc_new w (.cells #[.int .i64 0, .int .i64 0, .string ⟨#[]⟩, .slice none 0 0] 24)
  have HF := hid hF; have HR := hid hR
  obtain ⟨-, -, z0, z1, z2, z3, zf⟩ := set4 HR.out (.int .i64 0) (.int .i64 0) (.string ⟨#[]⟩) (.slice none 0 0)
  clear hF hR
  go_enter Try.func30, Try.ntmps30
  go_wp2_with fail
  refine bodyPost_ret (results_ct rfl _ _ w.heap.size _ _ _ _ rfl HR.out Try.underlying24 rfl (by kernel_rfl)) rfl ?_
  exact ⟨rfl, HF.out⟩
/-- num.Bool. -/
theorem bool_any (b : Bool) (w : World) : Calls Try.prog 28 #[.bool b] w fun e w' => e = .returned (.agg (cI (if b then 1 else 0))) ∧ Fr (fun _ => False) w w' := by
  have hF := (Fr.refl (fun _ => False) w).alloc (.cells #[.int .i64 0, .int .i64 0, .string ⟨#[]⟩, .slice none 0 0] 24)
  have hR := heap_alloc_new w (.cells #[.int .i64 0, .int .i64 0, .string ⟨#[]⟩, .slice none 0 0] 24)
  have HF := hid hF; have HR := hid hR
  clear hF hR
  unfold cI
  cases b with
  | true =>
    go_enter Try.func28, Try.ntmps28
    go_wp2_with fail
    refine (vI_any 1 _).mono ?_
    rintro e w2 ⟨rfl, hf2⟩
    obtain ⟨hR, hf5, z0, z1, z2, z3, zf⟩ := set4 (hf2.heap HR.out not_false) (.int .i64 0) (.int .i64 1) (.string ⟨#[]⟩) (.slice none 0 0)
    have HRR := hid hR
    have HF5 := hid ((HF.out.trans' hf2).trans hf5 (U := fun _ => False) (fun _ _ h => h) (fun q hq e => by omega))
    clear hR hf5 hf2
    go_wp2_with fail
    refine bodyPost_ret (results_c rfl _ _ w.heap.size _ _ _ _ rfl HRR.out Try.underlying24 rfl (by kernel_rfl)) rfl ?_
    exact ⟨rfl, HF5.out⟩
  | false =>
    go_enter Try.func28, Try.ntmps28
    go_wp2_with fail
    refine (vI_any 0 _).mono ?_
    rintro e w2 ⟨rfl, hf2⟩
    obtain ⟨hR, hf5, z0, z1, z2, z3, zf⟩ := set4 (hf2.heap HR.out not_false) (.int .i64 0) (.int .i64 0) (.string ⟨#[]⟩) (.slice none 0 0)
    have HRR := hid hR
    have HF5 := hid ((HF.out.trans' hf2).trans hf5 (U := fun _ => False) (fun _ _ h => h) (fun q hq e => by omega))
    clear hR hf5 hf2
    go_wp2_with fail
    refine bodyPost_ret (results_c rfl _ _ w.heap.size _ _ _ _ rfl HRR.out Try.underlying24 rfl (by kernel_rfl)) rfl ?_
    exact ⟨rfl, HF5.out⟩
/-- ints at the chapter's examples: -7 by 2. -/
theorem ints_any (op r : Int) (h : (op = 8 ∧ r = -3) ∨ (op = 9 ∧ r = -1)) (w : World) : Calls Try.prog 33 #[.int .i64 op, .int .i64 (-7), .int .i64 2] w fun e w' => e = .returned (.tuple #[.agg (cI r), .int .i64 0]) ∧ Fr (fun _ => False) w w' := by
  have hF := (Fr.refl (fun _ => False) w).alloc (.cells #[.int .i64 0, .int .i64 0, .string ⟨#[]⟩, .slice none 0 0] 24)
  have hR := heap_alloc_new w (.cells #[.int .i64 0, .int .i64 0, .string ⟨#[]⟩, .slice none 0 0] 24)
  have HF := hid hF; have HR := hid hR
  clear hF hR
  unfold cI
  rcases h with ⟨rfl, rfl⟩ | ⟨rfl, rfl⟩
  · go_enter Try.func33, Try.ntmps33
    go_wp2_with fail
    refine (vI_any (-3) _).mono ?_
    rintro e w2 ⟨rfl, hf2⟩
    obtain ⟨hR, hf5, z0, z1, z2, z3, zf⟩ := set4 (hf2.heap HR.out not_false) (.int .i64 0) (.int .i64 (-3)) (.string ⟨#[]⟩) (.slice none 0 0)
    have HRR := hid hR
    have HF5 := hid ((HF.out.trans' hf2).trans hf5 (U := fun _ => False) (fun _ _ h => h) (fun q hq e => by omega))
    clear hR hf5 hf2
    go_wp2_with fail
    refine bodyPost_ret (results_ct rfl _ _ w.heap.size _ _ _ _ rfl HRR.out Try.underlying24 rfl (by kernel_rfl)) rfl ?_
    exact ⟨rfl, HF5.out⟩
  · go_enter Try.func33, Try.ntmps33
    go_wp2_with fail
    refine (vI_any (-1) _).mono ?_
    rintro e w2 ⟨rfl, hf2⟩
    obtain ⟨hR, hf5, z0, z1, z2, z3, zf⟩ := set4 (hf2.heap HR.out not_false) (.int .i64 0) (.int .i64 (-1)) (.string ⟨#[]⟩) (.slice none 0 0)
    have HRR := hid hR
    have HF5 := hid ((HF.out.trans' hf2).trans hf5 (U := fun _ => False) (fun _ _ h => h) (fun q hq e => by omega))
    clear hR hf5 hf2
    go_wp2_with fail
    refine bodyPost_ret (results_ct rfl _ _ w.heap.size _ _ _ _ rfl HRR.out Try.underlying24 rfl (by kernel_rfl)) rfl ?_
    exact ⟨rfl, HF5.out⟩
end Go.Proofs.Ytjngddmjgcecnaa
