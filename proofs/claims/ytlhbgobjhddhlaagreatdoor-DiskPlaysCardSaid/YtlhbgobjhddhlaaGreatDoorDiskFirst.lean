/- The chapter's examples: the disk. -/
import Derived.Test.YtlhbgobjhddhlaaGreatDoorDiskQ
namespace Go.Proofs.YtlhbgobjhddhlaaGreatDoor
open Go.RowKit
variable {w0 w w' : World} {s : DS} {pa : Nat → Addr}

set_option maxRecDepth 100000 in
set_option maxHeartbeats 3200000 in
theorem dfirst_any (hS : S6 w.heap.size w pa) : Calls Tryz.prog 4 #[] w fun e w' => e = .returned (.bool true) ∧ Fr (fun _ => False) w w' := by
  have HN := hid (new_p hS (Fr.refl _ w) 100)
  have HS := hid hS
  clear hS
  have hcv := conv_const (P := Tryz.prog) 32 5 Tryz.underlying32 Tryz.underlying5
  go_enter Tryz.func4, Tryz.ntmps4
  go_wp2_with fail
  refine HN.out.mono ?_
  rintro e w1 ⟨-, h1⟩
  obtain ⟨X, rfl, h1, -⟩ := h1 (by decide +kernel)
  have H1 := hid h1
  clear h1
  go_wp2_with fail
  refine (create_p H1.out HS.out (nm := ⟨#[97]⟩) ⟨rfl, rfl⟩ (by decide +kernel) rfl ⟨Nat.zero_le _, Nat.zero_le _⟩).mono ?_
  rintro e w2 ⟨rfl, F, -, h2, -⟩
  have H2 := hid h2
  clear h2
  go_wp2_with fail
  have hf2 := (Fr.refl (fun _ => False) w2).alloc (.cells #[.int .u8 120, .int .u8 121] 5 (2, 3))
  refine (append_p (H2.out.fr hf2) HS.out (nm := ⟨#[97]⟩) ⟨rfl, rfl⟩ (lk_one _ _) _ [120, 121] _ (Bs.row (heap_alloc_new _ _) (by decide)) (fun k hk => by rw [hk]; exact ⟨_, _, heap_alloc_new _ _⟩) (by simp [PS.used, PS.create, PS.new, pt, dl, sumF]) (by simp [PS.create, PS.new])).mono ?_
  clear hf2
  rintro e w3 ⟨rfl, h3, -⟩
  have H3 := hid h3
  clear h3
  go_wp2_with fail
  refine (sync_p H3.out HS.out (nm := ⟨#[97]⟩) ⟨rfl, rfl⟩ (lk_one _ _) (by simp [PS.put, PS.create, PS.new])).mono ?_
  rintro e w4 ⟨rfl, h4, -⟩
  have H4 := hid h4
  clear h4
  go_wp2_with fail
  refine (syncdir_p H4.out HS.out ⟨rfl, rfl⟩ (by simp [PS.put, PS.create, PS.new])).mono ?_
  rintro e w5 ⟨rfl, h5, -⟩
  have H5 := hid h5
  clear h5
  go_wp2_with fail
  have hf5 := (Fr.refl (fun _ => False) w5).alloc (.cells #[.int .u8 122] 5 (1, 2))
  refine (append_p (H5.out.fr hf5) HS.out (nm := ⟨#[97]⟩) ⟨rfl, rfl⟩ (lk_one _ _) _ [122] _ (Bs.row (heap_alloc_new _ _) (by decide)) (fun k hk => by rw [hk]; exact ⟨_, _, heap_alloc_new _ _⟩) (by simp [PS.used, PS.put, PS.syncDir, PS.create, PS.new, pt, dl, sumF]) (by simp [PS.put, PS.syncDir, PS.create, PS.new])).mono ?_
  clear hf5
  rintro e w6 ⟨rfl, h6, -⟩
  have H6 := hid h6
  clear h6
  go_wp2_with fail
  refine (crash0_p H6.out (by simp [PS.put, PS.syncDir, PS.create, PS.new])).mono ?_
  rintro e w7 ⟨rfl, G, hG, h7, -⟩
  have HG := hid hG
  have H7 := hid h7
  clear h7 hG
  go_wp2_with fail
  have key : ∀ p : PS, p.kept = pt [] ⟨#[97]⟩ F → p.fs F = ⟨1, [120, 121, 122], 2⟩ → p.order [] G → lk (p.crash [] G).names ⟨#[97]⟩ = some F ∧ ((p.crash [] G).fs F).by_.length = 2 := fun p h1 h2 h3 => by
    have hk : p.kp (p.cp []) = pt [] ⟨#[97]⟩ F := by rw [cp_nil]; exact h1
    refine ⟨by show lk (p.kp (p.cp [])) _ = _; rw [hk]; exact lk_one _ _, ?_⟩
    have hm : F ∈ G := (h3.2.1 F).2 ⟨⟨#[97]⟩, by rw [hk]; simp [pt]⟩
    simp only [PS.crash]
    rw [if_pos hm, h2, pick_nil]
    rfl
  obtain ⟨k1, k2⟩ := key _ rfl (by simp [PS.put, PS.syncDir, PS.create, PS.new]) HG.out
  have HL := hid (len_p H7.out HS.out ⟨rfl, rfl⟩ k1)
  rw [k2] at HL
  clear k1 k2 key
  refine HL.out.mono ?_
  rintro e w8 ⟨rfl, hf8⟩
  have HF8 := hid (H7.out.f.trans' hf8)
  clear hf8
  go_wp2_with fail
  go_ret
  exact ⟨rfl, HF8.out⟩
end Go.Proofs.YtlhbgobjhddhlaaGreatDoor
