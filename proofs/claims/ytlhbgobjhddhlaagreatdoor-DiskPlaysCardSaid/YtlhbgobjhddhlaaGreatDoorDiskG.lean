/- Package disk: Sync, New, Down, Calls, Arm. -/
import Derived.Test.YtlhbgobjhddhlaaGreatDoorDiskF
import Derived.Carry
namespace Go.Proofs.YtlhbgobjhddhlaaGreatDoor
open Go.RowKit
variable {base : Nat} {w w' : World} {s : DS}

set_option maxRecDepth 100000 in
set_option maxHeartbeats 3200000 in
theorem sync_any (pa : Nat → Addr) (hS : S6 base w pa) (h : DAt base w s) (nm : ByteArray) (hn : nm.size ≤ 1048576) (hc : s.calls ≤ 1000000) :
    Calls Tryz.prog 16 #[.pointer (some ⟨s.X, 0, none⟩), .string nm] w fun e w' => e = .returned (errV pa (findE s nm)) ∧
      (findE s nm ≠ 0 → DAt base w' (beginS s) ∧ Fr (fun k => k = s.X) w w') ∧
      (findE s nm = 0 → ∃ k, lk s.names nm = some k ∧ DAt base w' (fsUp (beginS s) k ⟨(s.fs k).id, (s.fs k).by_, (s.fs k).by_.length⟩) ∧ Fr (fun q => q = k ∨ q = s.X) w w') := by
  have HC := hid (find_any pa hS h nm (by unfold maxLen; omega))
  have hbs := beginS_same s
  have HX := hid hbs.1
  have HBS := hid hbs
  rcases find_cases s h.names.2 nm with ⟨k, e1, e2, hmm, hlk, hbe⟩ | ⟨e1, e2⟩
  rotate_left
  · obtain ⟨p, hp⟩ := errV_some pa (m := findE s nm) (by omega)
    have hne : findE s nm ≠ 0 := by omega
    rw [e1, hp] at HC
    rw [hp]
    have HNE := hid hne
    unfold pV at HC
    clear e1 e2 hp h hS hbs hc hne
    go_enter Tryz.func16, Tryz.ntmps16
    go_wp2_with fail
    refine HC.out.mono ?_
    rintro e w2 ⟨rfl, h2, hf2⟩
    have H2 := hid h2; have HF2 := hid hf2
    clear h2 hf2
    go_wp2_with fail
    go_ret
    exact ⟨rfl, fun _ => ⟨H2.out, HF2.out⟩, fun h => absurd h HNE.out⟩
  have hbd := h.bd k (.inl ⟨nm, hmm⟩)
  rw [e1, e2] at HC
  rw [e2]
  have z0 : errV pa 0 = .nilIface := rfl
  rw [z0] at HC ⊢
  unfold pV at HC
  have HK := hid (show Fl (beginS s) k by rw [Fl, hbs.2.2.2.2.2.1]; exact .inl ⟨nm, hmm⟩)
  have HLK := hid hlk; have HBD := hid hbd; have HCC := hid hc
  clear e1 e2 h hS hbs hbd z0 hmm hlk hbe
  go_enter Tryz.func16, Tryz.ntmps16
  go_wp2_with fail
  refine HC.out.mono ?_
  rintro e wy ⟨rfl, h2, hf2⟩
  have HD2 := hid h2; have HFy := hid hf2
  clear h2 hf2
  have hfs : (beginS s).fs = s.fs := HBS.out.2.2.2.2.2.2.2.2.2.2
  have hfa := HD2.out.fl k HK.out
  rw [hfs] at hfa
  obtain ⟨a, c, f0, f1, f2, hbs1, ffz, hhk, hnv⟩ := hfa.cells
  have kf := ffz 2
  obtain ⟨l, hl⟩ : ∃ l, (s.fs k).by_ = l := ⟨_, rfl⟩
  have ht := hfa.typed
  rw [hl] at f1 hhk hbs1 hnv
  have hh7 := setCell_row 2 (.int .i64 (l.length : Int)) hhk
  simp only [List.setIfInBounds_toArray, List.set_cons_zero, List.set_cons_succ] at hh7
  have hF7 : Fr (fun j => j = k) wy (wy.setCell ⟨k, 2, none⟩ (.int .i64 (l.length : Int))) := Fr.setCell (S := fun j => j = k) (Fr.refl _ _) (p := ⟨k, 2, none⟩) (.inl rfl) _
  have hfile : FileAt (wy.setCell ⟨k, 2, none⟩ (.int .i64 (l.length : Int))) k ⟨(s.fs k).id, l, l.length⟩ := ⟨_, hh7, (hbs1.frame hF7 ht.1).mono fun j _ hj => hj.frame hF7 (ht.1 j hj), hnv⟩
  have hbd := HBD.out
  rw [hl] at hbd
  have hca : (beginS s).calls = s.calls := HBS.out.2.2.2.2.2.2.2.2.2.1
  have hcc := HCC.out
  have hfin := HD2.out.fsUp HK.out ⟨(s.fs k).id, l, l.length⟩ hF7 hfile ⟨by dsimp only; omega, Nat.le_refl _, by dsimp only; omega⟩ (by omega) (j := (s.calls : Int) + 1) (by rw [hca]) rfl
  rw [HX.out] at hfin
  have hx7 := hF7.heap HD2.out.heap (fun e => by
    have := ht.2 _ _ _ (by rw [← e]; exact HD2.out.heap)
    exact absurd this (by decide))
  rw [HX.out] at hx7
  have x7 : (wy.setCell ⟨k, 2, none⟩ (.int .i64 (l.length : Int))).cell? ⟨s.X, 7, none⟩ = some (.int .i64 s.calls) := by rw [cell_of_row _ _ _ _ _ _ hx7, hca]; rfl
  have xf : (wy.setCell ⟨k, 2, none⟩ (.int .i64 (l.length : Int))).frozen? ⟨s.X, 7, none⟩ = false := frozen_of_row _ _ _ _ _ hx7
  have hw7 : IntKind.i64.wrap ((s.calls : Int) + 1) = (s.calls : Int) + 1 := IntWalk.i64_in _ (by omega)
  have HL := hid hl; have HFIN := hid hfin
  clear hfs hfa f0 hbs1 ffz hhk hnv hl ht hh7 hF7 hfile hbd hca hcc hfin hx7
  go_wp2_with fail
  go_ret
  refine ⟨rfl, fun h => absurd rfl h, fun _ => ⟨k, HLK.out, ?_, ?_⟩⟩
  · rw [HL.out]; exact HFIN.out.1
  · exact HFy.out.trans (U := fun q => q = k ∨ q = s.X) HFIN.out.2 (fun _ _ h => .inr h) (fun _ _ h => h)
/-- A new disk. -/
def newS (B : Nat) (room : Int) : DS := { X := B + 2, bn := B, bk := B + 1, cv := .slice none 0 0, room := room, names := [], kept := [], ch := [], files := 0, armed := 0, down := false, calls := 0, fs := fun _ => ⟨0, [], 0⟩ }
def newOk (room : Int) : Bool := decide (1 ≤ room) && decide (room ≤ 4194304)
set_option maxRecDepth 100000 in
set_option maxHeartbeats 1600000 in
theorem new_any (pa : Nat → Addr) (hS : S6 base w pa) (hb : base ≤ w.heap.size) (room : Int) :
    Calls Tryz.prog 5 #[.int .i64 room] w fun e w' => (newOk room = false → e = .returned (.tuple #[.pointer none, errV pa 105]) ∧ Fr (fun _ => False) w w') ∧
      (newOk room = true → e = .returned (.tuple #[.pointer (some ⟨w.heap.size + 2, 0, none⟩), .nilIface]) ∧ DAt base w' (newS w.heap.size room) ∧ Fr (fun _ => False) w w') := by
  have g4 : w.cell? ⟨0, 0, none⟩ = some (.iface 167 (.pointer (some (pa 4)))) := hS.get 4 (by decide)
  have z1 : errV pa 105 = .iface 167 (.pointer (some (pa 4))) := rfl
  rw [z1]
  clear hS z1
  by_cases h1 : room < 1
  · have hok : newOk room = false := by unfold newOk; rw [decide_eq_false (by omega)]; rfl
    rw [hok]
    clear hok
    go_enter Tryz.func5, Tryz.ntmps5
    go_wp2_with fail
    go_quiet (fail)
    go_wp2_with fail
    go_ret2
    exact ⟨fun _ => ⟨rfl, (Fr.refl _ _).drewN _⟩, fun h => by simp at h⟩
  by_cases h2 : 4194304 < room
  · have hok : newOk room = false := by unfold newOk; rw [decide_eq_false (p := room ≤ 4194304) (by omega)]; simp
    rw [hok]
    clear hok
    go_enter Tryz.func5, Tryz.ntmps5
    go_wp2_with fail
    go_quiet (fail)
    go_wp2_with fail
    go_ret2
    exact ⟨fun _ => ⟨rfl, (Fr.refl _ _).drewN _⟩, fun h => by simp at h⟩
  have hok : newOk room = true := by unfold newOk; rw [decide_eq_true (by omega), decide_eq_true (by omega)]; rfl
  rw [hok]
  have hmm := @run_makeMap Tryz.prog
  have hrm : 1 ≤ room ∧ room ≤ 4194304 := by omega
  have hm1 := MapAt.made w
  have hm2 := MapAt.made (w.alloc (.map #[] 0))
  have hs1 : (w.alloc (.map #[] 0)).heap.size = w.heap.size + 1 := by simp
  rw [hs1] at hm2
  have hF := (Fr.refl (fun _ => False) w).alloc (.map #[] 0)
  have hF2 := (Fr.refl (fun _ => False) (w.alloc (.map #[] 0))).alloc (.map #[] 0)
  have hF3 := (Fr.refl (fun _ => False) ((w.alloc (.map #[] 0)).alloc (.map #[] 0))).alloc (.cells #[.int .i64 room, .map (some w.heap.size), .map (some (w.heap.size + 1)), .slice none 0 0, .int .i64 0, .int .i64 0, .bool false, .int .i64 0] 62)
  have hh := heap_alloc_new ((w.alloc (.map #[] 0)).alloc (.map #[] 0)) (.cells #[.int .i64 room, .map (some w.heap.size), .map (some (w.heap.size + 1)), .slice none 0 0, .int .i64 0, .int .i64 0, .bool false, .int .i64 0] 62)
  have hs2 : ((w.alloc (.map #[] 0)).alloc (.map #[] 0)).heap.size = w.heap.size + 2 := by simp
  rw [hs2] at hh
  have hD : DAt base (((w.alloc (.map #[] 0)).alloc (.map #[] 0)).alloc (.cells #[.int .i64 room, .map (some w.heap.size), .map (some (w.heap.size + 1)), .slice none 0 0, .int .i64 0, .int .i64 0, .bool false, .int .i64 0] 62)) (newS w.heap.size room) := by
    have hno : ∀ k, ¬ Fl (newS w.heap.size room) k := fun k hk => by
      rcases hk with ⟨n, hn⟩ | ⟨n, hn⟩ | ⟨c, hc, -⟩
      · simp [newS] at hn
      · simp [newS] at hn
      · simp [newS] at hc
    refine ⟨hh, (hm1.frame hF2 not_false).frame hF3 not_false, hm2.frame hF3 not_false, by simp [newS], World.ownsRow_nil _ _ _ _, fun k hk => absurd hk (hno k), fun k hk => ?_, ⟨by simp [newS], by simp [newS], by simp [newS]⟩, fun k hk => absurd hk (hno k), hrm, by simp [newS]⟩
    rcases hk with e | e | e | e | e
    · rw [e]; simp only [newS]; omega
    · rw [e]; simp only [newS]; omega
    · rw [e]; simp only [newS]; omega
    · simp [newS, Value.ownBlock] at e
    · exact absurd e (hno k)
  have HD := hid hD; have HF := hid ((hF.trans' hF2).trans' hF3)
  clear hD hF hF2 hF3 hh hm1 hm2 hok g4 hrm
  go_enter Tryz.func5, Tryz.ntmps5
  go_wp2_with fail
  go_ret2
  first | exact ⟨rfl, HD.out, HF.out⟩ | exact ⟨fun h => by simp at h, fun _ => ⟨rfl, HD.out, HF.out⟩⟩
theorem down_any (h : DAt base w s) : Calls Tryz.prog 65 #[.pointer (some ⟨s.X, 0, none⟩)] w fun e w' => e = .returned (.bool s.down) ∧ w = w' := by
  obtain ⟨-, -, -, -, -, -, c6, -⟩ := h.cells
  clear h
  go_enter Tryz.func65, Tryz.ntmps65
  go_wp2_with fail
  go_ret
  exact ⟨rfl, rfl⟩
theorem calls_any (h : DAt base w s) : Calls Tryz.prog 64 #[.pointer (some ⟨s.X, 0, none⟩)] w fun e w' => e = .returned (.int .i64 s.calls) ∧ w = w' := by
  obtain ⟨-, -, -, -, -, -, -, c7, -⟩ := h.cells
  clear h
  go_enter Tryz.func64, Tryz.ntmps64
  go_wp2_with fail
  go_ret
  exact ⟨rfl, rfl⟩
end Go.Proofs.YtlhbgobjhddhlaaGreatDoor
