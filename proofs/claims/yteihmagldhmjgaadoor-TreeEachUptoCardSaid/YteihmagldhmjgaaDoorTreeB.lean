/- Package tree: the rows of roles. -/
import Derived.Test.YteihmagldhmjgaaDoorTreeA
namespace Go.Proofs.YteihmagldhmjgaaDoor
open Go.RowKit

/-- Roles in a row. -/
def rV (l : List Int) : List Value := l.map fun r => .int .i64 r
theorem Tryd.info_i : (Tryd.prog.info? 3).map (fun i => (i.zero, i.size, i.bytes)) = some (some (.int .i64 0), 1, 8) := by kernel_rfl
set_option maxRecDepth 100000 in
set_option maxHeartbeats 1600000 in
theorem all_any (r : Int) (n : Nat) (hn : n ≤ 1073741824) (w : World) : Calls Tryd.prog 96 #[.int .i64 r, .int .i64 n] w fun e w' => ∃ v, e = .returned v ∧ w'.ownsRow w.heap.size 3 1 v n (rV (List.replicate n r)) ∧ Fr (fun _ => False) w w' := by
  have hnI : (n : Int) ≤ 1073741824 := by omega
  have HN := hid hn
  clear hn
  go_enter Tryd.func96, Tryd.ntmps96
  go_wp2_with fail
  go_loopw [5, 7] (fun v i wr => ∃ k : Nat, k ≤ n ∧ i = .int .i64 k ∧ wr.ownsRow w.heap.size 3 1 v k (rV (List.replicate k r)) ∧ Fr (fun _ => False) w wr) (fun _ i _ => n - (intOf i).toNat)
  case atStart => exact ⟨0, Nat.zero_le _, rfl, World.ownsRow_nil _ _ _ _, Fr.refl _ _⟩
  case round =>
    obtain ⟨k, hk, rfl, ho, hf⟩ := hrel
    by_cases hlt : k < n
    · have hlt' : (k : Int) < n := by omega
      have hfa := hf.alloc (.cells #[.int .i64 r] 3)
      have hcell := cell_new1 wr (.int .i64 r) 3 (0, 0)
      have HOW := hid (World.ownsRow.alloc ho (.cells #[.int .i64 r] 3))
      have HFA := hid hfa; have HCE := hid hcell
      have HK := hid (show k + 1 ≤ 1099511627776 by have := HN.out; omega)
      have HLT := hid (fun q (hq : Value.ownBlock _ = some q) => (ho.lt q hq).1)
      obtain ⟨va, vc, rfl, -⟩ := own_len ho
      clear ho hf hfa hcell
      go_wp2_with (at_builtin; go_must (refine wpList_append1 rfl (.tmp 9) (.tmp 11) 22 rfl 3 (.int .i64 0) 8 Tryd.underlying22 Tryd.info_i rfl _ rfl w.heap.size k (rV (List.replicate k r)) HOW.out wr.heap.size 1 (.int .i64 r) rfl HCE.out rfl HK.out (by decide) HFA.out.size ?_))
      intro g cap w3 ho3 hf3 _
      have HF3 := hid (HFA.out.trans hf3 (U := fun _ => False) (fun _ _ h => h) (fun q hq e => by have := HLT.out q e.symm; omega))
      have HO3 := hid (show w3.ownsRow w.heap.size 3 1 (.slice (some ⟨g, 0, none⟩) (k + 1) cap) (k + 1) (rV (List.replicate (k + 1) r)) by
        have : rV (List.replicate (k + 1) r) = rV (List.replicate k r) ++ [.int .i64 r] := by rw [List.replicate_succ']; simp [rV]
        rw [this]; exact ho3)
      clear ho3 hf3
      go_wp2_with fail
      go_roundw
      case rel => exact ⟨k + 1, by omega, by go_num, HO3.out, HF3.out⟩
      case measure => simp [intOf]; omega
    · obtain rfl : k = n := by omega
      go_wp2_with fail
      go_ret
      exact ⟨_, rfl, ho, hf⟩
end Go.Proofs.YteihmagldhmjgaaDoor
