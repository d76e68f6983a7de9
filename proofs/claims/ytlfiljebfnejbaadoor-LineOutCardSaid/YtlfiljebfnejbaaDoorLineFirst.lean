/- The chapter's example of the lines: true. -/
import Derived.Test.YtlfiljebfnejbaaDoorLineIn
import Derived.Test.YtlfiljebfnejbaaDoorRegion
import Derived.Test.YtlfiljebfnejbaaDoorRefs
namespace Go.Proofs.YtlfiljebfnejbaaDoor
open Go.RowKit

theorem bs_lit2 (w : World) (x y : UInt8) (fz : Nat × Nat) (g : Nat) (hg : g = w.heap.size) : Bs (fun k => k = g) (w.alloc (.cells #[.int .u8 x.toNat, .int .u8 y.toNat] 5 fz)) (.slice (some ⟨g, 0, none⟩) 2 2) [x, y] := by
  subst hg
  have h : (w.alloc (.cells #[.int .u8 x.toNat, .int .u8 y.toNat] 5 fz)).heap[w.heap.size]? = some (.cells #[.int .u8 x.toNat, .int .u8 y.toNat] 5 fz) := heap_alloc_new w _
  refine ⟨_, _, rfl, by simp, by simp [maxLen], fun k hk => ⟨w.heap.size, 0, rfl, rfl, ?_⟩⟩
  rw [cell_of_row _ _ _ _ _ _ h]
  match k, hk with
  | 0, _ => rfl
  | 1, _ => rfl
theorem ss_lit1 (w : World) (x : ByteArray) (fz : Nat × Nat) (g : Nat) (hg : g = w.heap.size) : Ss (fun k => k = g) (w.alloc (.cells #[.string x] 9 fz)) (.slice (some ⟨g, 0, none⟩) 1 1) [x] := by
  subst hg
  refine ⟨_, _, rfl, by simp, by simp [maxLen], fun k hk => ⟨w.heap.size, 0, rfl, rfl, ?_⟩⟩
  match k, hk with
  | 0, _ => exact cell_new1 _ _ _ _

theorem in_fresh (w : World) (m : Int) (T : Nat) : InAt T (w.alloc (.cells #[.int .i64 m, .slice none 0 0] T)) w.heap.size m (.slice none 0 0) [] :=
  ⟨heap_alloc_new w _, World.ownsRow_nil _ _ _ _⟩

set_option maxHeartbeats 800000 in
theorem first_any (w : World) : Calls Tryd.prog 6 #[] w fun e w' => e = .returned (.bool true) ∧ Fr (fun _ => False) w w' := by
  have kc := conv_const (P := Tryd.prog) 22 5 Tryd.underlying22 Tryd.underlying5
  go_enter Tryd.func6, Tryd.ntmps6
  go_wp2_with (go_at_call 8; refine (newIn_any _ _).mono ?_; rintro e w' ⟨rfl, rfl⟩)
  have i1 := (in_fresh w (bnd 20 512) 46).frame ((Fr.refl (fun _ => False) _).alloc (.cells #[Value.int .u8 97, .int .u8 98] 5 (2, 3))) id (fun _ _ => id)
  have b1 : Bs (fun k => k = w.heap.size + 1) ((w.alloc (.cells #[.int .i64 (bnd 20 512), .slice none 0 0] 46)).alloc (.cells #[.int .u8 97, .int .u8 98] 5 (2, 3))) (.slice (some ⟨w.heap.size + 1, 0, none⟩) 2 2) [97, 98] := bs_lit2 _ 97 98 (2, 3) _ (by simp)
  refine (feed_any (fun k => k = w.heap.size + 1) w.heap.size (bnd 20 512) (.slice none 0 0) (.slice (some ⟨w.heap.size + 1, 0, none⟩) 2 2) [] [97, 98] _ i1 b1 (by simp [InS, Value.ownBlock]) (by simp)).mono ?_
  rintro e w2 ⟨ov, bv, rfl, hF⟩
  have e1 : feed (bnd 20 512) ([], []) [97, 98] = ([], [97, 98]) := by decide
  rw [e1] at hF
  clear i1 b1
  obtain ⟨oa, oc, rfl, _⟩ := own_len hF.out
  go_wp2_with fail
  have f2 : Fr (fun _ => False) w w2 := ((((Fr.refl (fun _ => False) w).alloc _).alloc _).trans hF.fr (fun _ _ h => h) (fun k hk h => by
    rcases h with h | h
    · omega
    · simp [Value.ownBlock] at h))
  have i2 : InAt 46 (w2.alloc (.cells #[.int .u8 99, .int .u8 10] 5 (2, 3))) w.heap.size (bnd 20 512) bv [97, 98] := hF.at_.frame ((Fr.refl (fun _ => False) _).alloc _) id (fun _ _ => id)
  have b2 : Bs (fun k => k = w2.heap.size) (w2.alloc (.cells #[.int .u8 99, .int .u8 10] 5 (2, 3))) (.slice (some ⟨w2.heap.size, 0, none⟩) 2 2) [99, 10] := bs_lit2 _ 99 10 (2, 3) _ rfl
  have hlt := hF.at_.lt
  refine (feed_any (fun k => k = w2.heap.size) w.heap.size (bnd 20 512) bv (.slice (some ⟨w2.heap.size, 0, none⟩) 2 2) [97, 98] [99, 10] _ i2 b2 (fun k hk h => by have := hlt k h; omega) (by simp)).mono ?_
  rintro e w3 ⟨ov, bv3, rfl, hF3⟩
  have e3 : feed (bnd 20 512) ([], [97, 98]) [99, 10] = ([[97, 98, 99]], []) := by decide
  rw [e3] at hF3
  have hblk := hF.blk
  have f3 : Fr (fun _ => False) w w3 := (f2.alloc _).trans hF3.fr (fun _ _ h => h) (fun k hk h => by
    rcases h with h | h
    · omega
    · rcases hblk k h.symm with h | h
      · simp [Value.ownBlock] at h
      · simp at h; omega)
  have s3 : Ss (fun k => ov.ownBlock = some k) w3 ov [⟨#[97, 98, 99]⟩] := Ss.own hF3.out
  clear i2 b2 hF hF3 e3 e1 hblk hlt
  go_wp2_with fail
  have s4 : Ss (fun k => ov.ownBlock = some k) (w3.alloc (.cells #[.string ⟨#[97, 98, 99]⟩] 9)) ov [⟨#[97, 98, 99]⟩] := s3.frame ((Fr.refl (fun _ => False) _).alloc _) (fun _ _ => id)
  have s5 : Ss (fun k => k = w3.heap.size) (w3.alloc (.cells #[.string ⟨#[97, 98, 99]⟩] 9)) (.slice (some ⟨w3.heap.size, 0, none⟩) 1 1) [⟨#[97, 98, 99]⟩] := ss_lit1 _ _ (0, 0) _ rfl
  refine (sameTexts_any _ _ _ _ _ _ _ s4 s5).mono ?_
  rintro e w4 ⟨rfl, n, rfl⟩
  have hd : decide (([⟨#[97, 98, 99]⟩] : List ByteArray) = [⟨#[97, 98, 99]⟩]) = true := by simp
  rw [hd]
  clear s3 s4 s5 hd
  go_wp2
  go_ret
  exact ⟨rfl, (f3.alloc _).drewN n⟩
end Go.Proofs.YtlfiljebfnejbaaDoor
