/- Package disk: maps.Clone, SyncDir. -/
import Derived.Test.YtlhbgobjhddhlaaGreatDoorDiskG
import Derived.Shelf.SlMaps.Clone
namespace Go.Proofs.YtlhbgobjhddhlaaGreatDoor
open Go.RowKit
variable {base : Nat} {w w' : World} {s : DS}

set_option maxRecDepth 100000 in
set_option maxHeartbeats 1600000 in
theorem mclone_any {b : Nat} {M : Nm} (h : MapAt w b M) : Calls Tryz.prog 50 #[.map (some b)] w fun e w' => e = .returned (.map (some w.heap.size)) ∧ MapAt w' w.heap.size M ∧ Fr (fun _ => False) w w' ∧ w'.heap.size = w.heap.size + 1 := by
  obtain ⟨es, clock, hb, hm⟩ := h.cells
  have hM := hm (w.alloc (.map es clock)) w.heap.size (heap_alloc_new w _)
  have hF := (Fr.refl (fun _ => False) w).alloc (.map es clock)
  have HM := hid hM; have HF := hid hF
  clear hm hM hF h
  have hq := fun w => Go.Proofs.run_eql_map_nil_sl (P := Tryz.prog) w 59 _ _ (some b) Tryz.underlying59
  go_enter Tryz.func50, Tryz.ntmps50
  go_wp2
  rw [run_callFunc_extern Tryz.func69 (by kernel_rfl) (by kernel_rfl) (by kernel_rfl) (e := Extern.MapsClone.clone) (by kernel_rfl), Go.Proofs.run_maps_clone_sl w 59 hb]
  simp only [Result.andThen]
  rw [Oper.upon_value]
  go_wp2
  rw [Go.Proofs.run_typeAssert_map_sl _ 59 20 _ _ _ Tryz.underlying59]
  simp only [Result.andThen]
  rw [Oper.upon_value]
  go_wp2
  go_ret
  exact ⟨rfl, HM.out, HF.out, by simp⟩
/-- All names are kept. -/
def syncS (s : DS) (bk : Nat) : DS := { s with bk := bk, kept := s.names, ch := [], cv := .slice none 0 0, calls := s.calls + 1 }
set_option maxRecDepth 100000 in
set_option maxHeartbeats 3200000 in
theorem syncdir_any (pa : Nat → Addr) (hS : S6 base w pa) (h : DAt base w s) (hc : s.calls ≤ 1000000) (hb : base ≤ w.heap.size) :
    Calls Tryz.prog 22 #[.pointer (some ⟨s.X, 0, none⟩)] w fun e w' => e = .returned (errV pa (beginE s)) ∧
      (beginE s ≠ 0 → DAt base w' (beginS s) ∧ Fr (fun k => k = s.X) w w') ∧
      (beginE s = 0 → ∃ bk, w.heap.size ≤ bk ∧ DAt base w' (syncS (beginS s) bk) ∧ Fr (fun k => k = s.X) w w') := by
  have HC := hid (begin_any pa hS h)
  have hbn := begin_no s
  have hbs := beginS_same s
  have HX := hid hbs.1
  have HBS := hid hbs
  have HB := hid hb; have HCC := hid hc
  by_cases hbe : beginE s = 0
  rotate_left
  · have hb1 : beginE s = 110 := by omega
    rw [hb1] at HC ⊢
    have z0 : errV pa 110 = .iface 167 (.pointer (some (pa 9))) := rfl
    rw [z0] at HC ⊢
    clear hbn z0 hb1 hbe hb hc h hS hbs
    go_enter Tryz.func22, Tryz.ntmps22
    go_wp2_with fail
    refine HC.out.mono ?_
    rintro e w2 ⟨rfl, h2, hf2⟩
    have H2 := hid h2; have HF2 := hid hf2
    clear h2 hf2
    go_wp2_with fail
    go_ret
    exact ⟨rfl, fun _ => ⟨H2.out, HF2.out⟩, fun h => by simp at h⟩
  rw [hbe] at HC ⊢
  have z0 : errV pa 0 = .nilIface := rfl
  rw [z0] at HC ⊢
  clear hbn z0 hbe hb hc h hS hbs
  go_enter Tryz.func22, Tryz.ntmps22
  go_wp2_with fail
  refine HC.out.mono ?_
  rintro e w2 ⟨rfl, h2, hf2⟩
  have H2 := hid h2; have HF2 := hid hf2
  have hh2 := h2.heap
  rw [HX.out] at hh2
  have c1 : w2.cell? ⟨s.X, 1, none⟩ = some (.map (some (beginS s).bn)) := by rw [cell_of_row _ _ _ _ _ _ hh2]; rfl
  have HH2 := hid hh2
  have HMC := hid (mclone_any h2.names)
  clear h2 hf2 hh2
  go_wp2_with fail
  refine HMC.out.mono ?_
  rintro e w3 ⟨rfl, hm3, hf3, hs3⟩
  have HM3 := hid hm3; have HF3 := hid hf3
  obtain ⟨K, hK⟩ : ∃ K, w2.heap.size = K := ⟨_, rfl⟩
  rw [hK] at HM3 ⊢
  have HKE := hid hK
  have hh3 := hf3.heap HH2.out not_false
  have H3 := hid (H2.out.fr hf3)
  have hca : (beginS s).calls = s.calls := HBS.out.2.2.2.2.2.2.2.2.2.1
  have c2 : w3.cell? ⟨s.X, 2, none⟩ = some (.map (some (beginS s).bk)) := by rw [cell_of_row _ _ _ _ _ _ hh3]; rfl
  have c3 : w3.cell? ⟨s.X, 3, none⟩ = some (beginS s).cv := by rw [cell_of_row _ _ _ _ _ _ hh3]; rfl
  have c7 : w3.cell? ⟨s.X, 7, none⟩ = some (.int .i64 s.calls) := by rw [cell_of_row _ _ _ _ _ _ hh3, hca]; rfl
  have fz : ∀ i, w3.frozen? ⟨s.X, i, none⟩ = false := fun i => frozen_of_row _ _ i _ _ hh3
  have f2 := fz 2
  have f3 := fz 3
  have f7 := fz 7
  have hw7 : IntKind.i64.wrap ((s.calls : Int) + 1) = (s.calls : Int) + 1 := IntWalk.i64_in _ (by have := HCC.out; omega)
  obtain ⟨ac, nc, cc, hcv⟩ : ∃ a n c, (beginS s).cv = .slice a n c := by
    obtain ⟨a, c, e, -⟩ := own_len H3.out.ch
    exact ⟨_, _, _, e⟩
  rw [hcv] at c3
  have HH3 := hid hh3
  clear hm3 hf3 hs3 hK hh3 hca fz hcv
  go_wp2_with fail
  go_ret
  have hx := setCell_row 7 (.int .i64 ((s.calls : Int) + 1)) (setCell_row 3 (.slice none 0 0) (setCell_row 2 (.map (some K)) HH3.out))
  simp only [List.setIfInBounds_toArray, List.set_cons_zero, List.set_cons_succ] at hx
  have hF := (((Fr.refl (fun k => k = s.X) w3).setCell (p := ⟨s.X, 2, none⟩) (.inl rfl) (.map (some K))).setCell (p := ⟨s.X, 3, none⟩) (.inl rfl) (.slice none 0 0)).setCell (p := ⟨s.X, 7, none⟩) (.inl rfl) (.int .i64 ((s.calls : Int) + 1))
  have hd := H3.out
  have hca : (beginS s).calls = s.calls := HBS.out.2.2.2.2.2.2.2.2.2.1
  have hK2 := HKE.out
  have hXlt := heap_lt H2.out.heap
  have hnlt := H2.out.names.lt
  have hb2 : base ≤ w2.heap.size := by have := HB.out; have := HF2.out.size; omega
  have hFl : ∀ k, Fl (syncS (beginS s) K) k → Fl (beginS s) k := fun k hk => by
    rcases hk with h1 | h1 | ⟨c, hc, -⟩
    · exact .inl h1
    · exact .inl h1
    · simp [syncS] at hc
  have hcn := hd.cn
  refine ⟨rfl, fun h => absurd rfl h, fun _ => ⟨K, by have := HF2.out.size; omega, ⟨?_, ?_, ?_, ?_, World.ownsRow_nil _ _ _ _, fun k hk => ?_, fun k hk => ?_, ⟨hd.sz.1, hd.sz.1, fun c hc => by simp [syncS] at hc⟩, fun k hk => hd.bd k (hFl k hk), hd.rm, ?_⟩, ?_⟩⟩
  · have e : (syncS (beginS s) K).X = s.X := HX.out
    rw [e, hx]
    simp only [syncS, hca, Int.natCast_add, Int.natCast_one]
  · refine hd.names.frame hF fun e => ?_
    obtain ⟨es, cl, hq, -⟩ := hd.names.cells
    rw [e, HH3.out] at hq
    cases hq
  · exact HM3.out.frame hF (fun e => by rw [← HX.out] at e; omega)
  · exact fun e => by simp only [syncS] at e; omega
  · have hfa := hd.fl k (hFl k hk)
    refine hfa.frame hF (fun e => ?_) fun j hj e => ?_
    · have := hfa.typed.2 _ _ _ (by rw [e]; exact HH3.out)
      exact absurd this (by decide)
    · obtain ⟨cs, fz, hc⟩ := hj
      rw [e, HH3.out] at hc
      simp only [Option.some.injEq, Obj.cells.injEq] at hc
      exact absurd hc.2.1 (by decide)
  · rcases hk with e | e | e | e | e
    · exact hd.lo k (.inl e)
    · exact hd.lo k (.inr (.inl e))
    · simp only [syncS] at e; omega
    · simp [syncS, Value.ownBlock] at e
    · exact hd.lo k (.inr (.inr (.inr (.inr (hFl k e)))))
  · simp only [syncS, List.length_nil]
    omega
  · exact (HF2.out.trans' (HF3.out.mono fun _ _ h => h.elim)).trans' hF
end Go.Proofs.YtlhbgobjhddhlaaGreatDoor
