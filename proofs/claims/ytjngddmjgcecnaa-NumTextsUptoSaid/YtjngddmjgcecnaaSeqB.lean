/- slices.Grow of nothing, slices.Concat, slices.Clone of values. -/
import Derived.Test.YtjngddmjgcecnaaSeqA
import Derived.Lib.AppendZeros
namespace Go.Proofs.Ytjngddmjgcecnaa
open Go.RowKit

/-- The pieces' lists, one behind the other. -/
def allP (ps : List (Value × List V)) : List V := (ps.map Prod.snd).flatten
theorem allP_take (ps : List (Value × List V)) (k : Nat) (p : Value × List V) (h : ps[k]? = some p) : allP (ps.take (k + 1)) = allP (ps.take k) ++ p.2 := by
  unfold allP
  rw [List.take_add_one, h]
  simp
theorem allP_le (ps : List (Value × List V)) (k : Nat) : (allP (ps.take k)).length ≤ (allP ps).length := by
  have : allP ps = allP (ps.take k) ++ allP (ps.drop k) := by
    unfold allP
    rw [← List.flatten_append, ← List.map_append, List.take_append_drop]
  rw [this, List.length_append]
  omega

set_option maxRecDepth 100000 in
set_option maxHeartbeats 1600000 in
theorem clone_any (l : List V) (D : Nat → Prop) (w : World) (v : Value) (h : VL D w l v) (hD : ∀ k, D k → k < w.heap.size) (hl : l.length ≤ 1099511627776) :
    Calls Try.prog 53 #[v] w fun e w' => ∃ v' us, e = .returned v' ∧ w'.ownsRow w.heap.size 24 4 v' l.length us ∧ VC D w' l us ∧ Fr (fun _ => False) w w' := by
  obtain ⟨a, c, us0, rfl, h1, h2, hn, -, -⟩ := id h
  cases a with
  | none =>
    have hc0 := hn rfl
    subst hc0
    have hl0 : l = [] := List.eq_nil_of_length_eq_zero (by omega)
    subst hl0
    have h1 := Lib.run_eql_slice_nil (P := Try.prog)
    clear h hD hl hn
    go_enter Try.func53, Try.ntmps53
    go_wp2_with fail
    go_ret
    exact ⟨_, [], rfl, World.ownsRow_nil _ _ _ _, VC.nil _ _, Fr.refl _ _⟩
  | some ad =>
    have hf := (Fr.refl (fun _ => False) w).alloc (.cells #[] 24)
    have hown := World.ownsRow_made (base := w.heap.size) (e := 24) (size := 4) w #[] 0 (Nat.le_refl _) (by simp [maxLen]) (by simp)
    obtain ⟨v', w4, us', hr, ho4, hc4, hf4, -, -⟩ := run_appendVL (w.alloc (.cells #[] 24)) w.heap.size (.slice (some ⟨w.heap.size, 0, none⟩) 0 0) _ [] l [] D hown (VC.nil _ _) (h.frame hf fun _ _ => not_false) (fun k hk hd => by
      have := hD k hd
      simp [Value.ownBlock] at hk
      omega) (by simpa using hl) hf.size 22
    have hF4 := hf.trans hf4 (U := fun _ => False) (fun _ _ h => h) (fun q hq e => by simp [Value.ownBlock] at e; omega)
    rw [List.nil_append] at ho4 hc4
    have HO4 := hid ho4; have HF4 := hid hF4; have HC4 := hid hc4
    have hnil := Lib.run_eql_slice_nil (P := Try.prog)
    clear h hD hl hn hf hown ho4 hc4 hf4 hF4
    go_enter Try.func53, Try.ntmps53
    go_upto_if 4 with fail
    refine wp_cond_false rfl ?_
    go_step
    go_step
    go_step
    go_step
    refine wp_region_lit ?_
    refine wpList_plain rfl (fun K hK => ?_)
    go_simp
    refine hK _ _ ?_
    clear hK K
    try simp only [Act.put, List.setIfInBounds_toArray, List.set_cons_zero, List.set_cons_succ]
    refine wpList_plain rfl (fun K hK => ?_)
    go_simp
    refine hK _ _ ?_
    clear hK K
    try simp only [Act.put, List.setIfInBounds_toArray, List.set_cons_zero, List.set_cons_succ]
    refine wpList_plain rfl (fun K hK => ?_)
    refine Lib.wp_append_run _ (.tmp 5) (.tmp 6) 22 22 rfl (.slice (some ⟨w.heap.size, 0, none⟩) 0 0) (.slice (some ad) l.length c) rfl rfl v' w4 hr ?_
    refine hK _ _ ?_
    clear hK K
    try simp only [Act.put, List.setIfInBounds_toArray, List.set_cons_zero, List.set_cons_succ]
    go_wp2_with fail
    go_ret
    exact ⟨_, us', rfl, HO4.out, HC4.out, HF4.out⟩
end Go.Proofs.Ytjngddmjgcecnaa
