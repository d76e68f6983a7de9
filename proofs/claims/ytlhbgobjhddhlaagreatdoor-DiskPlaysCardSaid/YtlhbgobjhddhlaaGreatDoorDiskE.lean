/- Package disk: Create, Remove. -/
import Derived.Test.YtlhbgobjhddhlaaGreatDoorDiskD
namespace Go.Proofs.YtlhbgobjhddhlaaGreatDoor
open Go.RowKit
variable {base : Nat} {w w' : World} {s : DS}

def addFile (s : DS) (f : Nat) : DS := { s with files := s.files + 1, fs := fun k => if k = f then ⟨s.files + 1, [], 0⟩ else s.fs k }
def createS (s : DS) (nm : ByteArray) (f : Nat) (cv : Value) : DS := changeS (addFile (beginS s) f) ⟨nm, ⟨#[]⟩, some f⟩ cv
def createE (s : DS) (nm : ByteArray) : Nat := if beginE s ≠ 0 then 110 else if okN nm = false then 106 else if lk s.names nm ≠ none then 108 else 0
theorem Bs.nil' (D : Nat → Prop) (w : World) : Bs D w (.slice none 0 0) [] := ⟨none, 0, rfl, Nat.le_refl _, by simp, fun k hk => by simp at hk⟩
theorem FileAt.made (w : World) (n : Nat) (i : Int) (hi : i = (n : Int)) : FileAt (w.alloc (.cells #[.int .i64 i, .slice none 0 0, .int .i64 0] 78)) w.heap.size ⟨n, [], 0⟩ := by
  subst hi
  exact ⟨_, heap_alloc_new w _, Bs.nil' _ _, .inl rfl⟩
/-- A new file beside the disk's. -/
theorem DAt.addFile (h : DAt base w s) {f : Nat} (hf : w.heap.size ≤ f) (hn : s.files ≤ 1000000) {j : Int} (hj : j = (s.files : Int) + 1) (hX : w'.heap[s.X]? = some (.cells #[.int .i64 s.room, .map (some s.bn), .map (some s.bk), s.cv, .int .i64 j, .int .i64 s.armed, .bool s.down, .int .i64 s.calls] 62 (0, 0)))
    (hF : Fr (fun k => k = s.X) w w') : DAt base w' (addFile s f) := by
  have h1 : DAt base w' { s with files := s.files + 1 } := h.turn _ hF rfl ⟨rfl, rfl, rfl, rfl, rfl, rfl, rfl, rfl⟩ (by rw [hX, hj]; rfl) (by have := h.cn; dsimp only; omega)
  have hne : ∀ k, Fl s k → k ≠ f := fun k hk e => by have := (h.fl k hk).lt; omega
  exact ⟨h1.heap, h1.names, h1.kept, h1.ne, h1.ch, fun k hk => by
    have := h1.fl k hk
    unfold Go.Proofs.YtlhbgobjhddhlaaGreatDoor.addFile
    dsimp only
    rw [if_neg (hne k hk)]
    exact this, h1.lo, h1.sz, fun k hk => by
    have := h1.bd k hk
    unfold Go.Proofs.YtlhbgobjhddhlaaGreatDoor.addFile
    dsimp only
    rw [if_neg (hne k hk)]
    exact this, h1.rm, h1.cn⟩
theorem S6.turn {pa : Nat → Addr} (hS : S6 base w pa) (h : DAt base w s) (hf : Fr (fun k => k = s.X) w w') : S6 base w' pa := hS.frame hf fun k e => by rw [e]; exact h.lo _ (.inl rfl)
theorem S6.get {pa : Nat → Addr} (hS : S6 base w pa) (i : Nat) (hi : i ∈ [4, 5, 6, 7, 8, 9]) : w.cell? ⟨sentG.getD i 0, 0, none⟩ = some (.iface 167 (.pointer (some (pa i)))) := (hS i hi).1
set_option maxRecDepth 100000 in
set_option maxHeartbeats 3200000 in
theorem create_any (pa : Nat → Addr) (hS : S6 base w pa) (h : DAt base w s) (nm : ByteArray) (hn : nm.size ≤ 1048576) (hc : s.calls ≤ 1000000 ∧ s.files ≤ 1000000) (hb : base ≤ w.heap.size) :
    Calls Tryz.prog 10 #[.pointer (some ⟨s.X, 0, none⟩), .string nm] w fun e w' => e = .returned (errV pa (createE s nm)) ∧
      (createE s nm ≠ 0 → DAt base w' (beginS s) ∧ Fr (fun k => k = s.X) w w') ∧ (createE s nm = 0 → ∃ f cv, w.heap.size ≤ f ∧ CvN s.cv cv w ∧ DAt base w' (createS s nm f cv) ∧ Fr (CSet s) w w') := by
  have HC := hid (begin_any pa hS h)
  have HS := hid (fun (w2 : World) (hf : Fr (fun k => k = s.X) w w2) => S6.turn hS h hf)
  have hbn := begin_no s
  have hbs := beginS_same s
  have HB := hid hb; have HCC := hid hc
  have HH := hid h
  by_cases hbe : beginE s = 0
  rotate_left
  · have hb1 : beginE s = 110 := by omega
    have e1 : createE s nm = 110 := by unfold createE; rw [if_pos hbe]
    rw [e1]
    rw [hb1] at HC
    have z0 : errV pa 110 = .iface 167 (.pointer (some (pa 9))) := rfl
    rw [z0] at HC ⊢
    clear e1 hbn z0 hb1 hbe hb hc h hS hbs
    go_enter Tryz.func10, Tryz.ntmps10
    go_wp2_with fail
    refine HC.out.mono ?_
    rintro e w2 ⟨rfl, h2, hf2⟩
    have H2 := hid h2; have HF2 := hid hf2
    clear h2 hf2
    go_wp2_with fail
    go_ret
    exact ⟨rfl, fun _ => ⟨H2.out, HF2.out⟩, fun h => by simp at h⟩
  rw [hbe] at HC
  have z0 : errV pa 0 = .nilIface := rfl
  rw [z0] at HC
  have HV := hid (fun w2 => valid_any nm (by omega) w2)
  by_cases hok : okN nm = false
  · have e1 : createE s nm = 106 := by unfold createE; rw [if_neg (by simp [hbe]), if_pos hok]
    rw [e1]
    rw [hok] at HV
    have z1 : errV pa 106 = .iface 167 (.pointer (some (pa 5))) := rfl
    rw [z1]
    clear e1 hbn z0 z1 hbe hb hc h hS hbs hok
    go_enter Tryz.func10, Tryz.ntmps10
    go_wp2_with fail
    refine HC.out.mono ?_
    rintro e w2 ⟨rfl, h2, hf2⟩
    have H2 := hid h2; have HF2 := hid hf2
    have g5 : w2.cell? ⟨1, 0, none⟩ = some (.iface 167 (.pointer (some (pa 5)))) := (HS.out w2 hf2).get 5 (by decide)
    clear h2 hf2
    go_wp2_with fail
    refine (HV.out _).mono ?_
    rintro e w3 ⟨rfl, rfl⟩
    go_wp2_with fail
    go_ret
    exact ⟨rfl, fun _ => ⟨H2.out, HF2.out⟩, fun h => by simp at h⟩
  have hok1 : okN nm = true := by simpa using hok
  rw [hok1] at HV
  have hsz := okN_size hok1
  have HSZ := hid hsz
  have hmx : nm.size ≤ maxLen := by unfold maxLen; omega
  have HLK := hid (fun (w2 : World) (h2 : DAt base w2 (beginS s)) => h2.names.look hmx)
  rw [hbs.2.1, hbs.2.2.2.2.2.1] at HLK
  have HX := hid hbs.1
  cases hl : lk s.names nm with
  | some k =>
    have e1 : createE s nm = 108 := by unfold createE; rw [if_neg (by simp [hbe]), if_neg hok, if_pos (by rw [hl]; simp)]
    rw [e1]
    rw [hl] at HLK
    unfold pV at HLK
    have z1 : errV pa 108 = .iface 167 (.pointer (some (pa 7))) := rfl
    rw [z1]
    have HBS := hid hbs
    clear e1 hbn z0 z1 hbe hb hc h hS hbs hok hok1 hl hsz hmx
    go_enter Tryz.func10, Tryz.ntmps10
    go_wp2_with fail
    refine HC.out.mono ?_
    rintro e w2 ⟨rfl, h2, hf2⟩
    have H2 := hid h2; have HF2 := hid hf2
    have g7 : w2.cell? ⟨2, 0, none⟩ = some (.iface 167 (.pointer (some (pa 7)))) := (HS.out w2 hf2).get 7 (by decide)
    have c1 := h2.cells.2.1
    rw [HX.out, HBS.out.2.1] at c1
    have hlk := HLK.out w2 h2
    clear h2 hf2
    go_wp2_with fail
    refine (HV.out _).mono ?_
    rintro e w3 ⟨rfl, rfl⟩
    go_wp2_with fail
    go_ret
    exact ⟨rfl, fun _ => ⟨H2.out, HF2.out⟩, fun h => by simp at h⟩
  | none =>
    have e1 : createE s nm = 0 := by unfold createE; rw [if_neg (by simp [hbe]), if_neg hok, if_neg (by rw [hl]; simp)]
    rw [e1]
    rw [hl] at HLK
    unfold pV at HLK
    rw [z0]
    have HBS := hid hbs
    have hw4 : IntKind.i64.wrap ((s.files : Int) + 1) = (s.files : Int) + 1 := IntWalk.i64_in _ (by omega)
    clear e1 hbn z0 hbe hb hc h hS hbs hok hok1 hl hsz hmx
    go_enter Tryz.func10, Tryz.ntmps10
    go_wp2_with fail
    refine HC.out.mono ?_
    rintro e w2 ⟨rfl, h2, hf2⟩
    have H2 := hid h2; have HF2 := hid hf2
    have hh2 := h2.heap
    rw [HX.out] at hh2
    have c1 : w2.cell? ⟨s.X, 1, none⟩ = some (.map (some s.bn)) := by rw [cell_of_row _ _ _ _ _ _ hh2, HBS.out.2.1]; rfl
    have c4 : w2.cell? ⟨s.X, 4, none⟩ = some (.int .i64 s.files) := by rw [cell_of_row _ _ _ _ _ _ hh2, HBS.out.2.2.2.2.2.2.2.2.1]; rfl
    have f4 : w2.frozen? ⟨s.X, 4, none⟩ = false := frozen_of_row _ _ _ _ _ hh2
    have hlk := HLK.out w2 h2
    have HH2 := hid hh2
    clear h2 hf2 hh2
    go_wp2_with fail
    refine (HV.out _).mono ?_
    rintro e w3 ⟨rfl, rfl⟩
    go_upto_region 9 with fail
    have hx5 := setCell_row 4 (.int .i64 ((s.files : Int) + 1)) HH2.out
    simp only [List.setIfInBounds_toArray, List.set_cons_zero, List.set_cons_succ] at hx5
    have hF5 := (Fr.refl (fun k => k = s.X) w2).setCell (p := ⟨s.X, 4, none⟩) (.inl rfl) (.int .i64 ((s.files : Int) + 1))
    clear c1 c4 f4 hlk hw4
    generalize w2.setCell ⟨s.X, 4, none⟩ (.int .i64 ((s.files : Int) + 1)) = w5 at *
    have c4 : w5.cell? ⟨s.X, 4, none⟩ = some (.int .i64 ((s.files : Int) + 1)) := by rw [cell_of_row _ _ _ _ _ _ hx5]; rfl
    obtain ⟨F, hFe⟩ : ∃ F, w5.heap.size = F := ⟨_, rfl⟩
    have hfl := HBS.out.2.2.2.2.2.2.2.2.1
    have hca := HBS.out.2.2.2.2.2.2.2.2.2.1
    have hcc := HCC.out
    have hD5 : DAt base w5 (addFile (beginS s) F) := H2.out.addFile (by rw [← hFe]; exact hF5.size) (by rw [hfl]; omega) (j := (s.files : Int) + 1) (by rw [hfl]) (by rw [HX.out]; exact hx5) (by rw [HX.out]; exact hF5)
    have hfa := (Fr.refl (fun _ => False) w5).alloc (.cells #[.int .i64 ((s.files : Int) + 1), .slice none 0 0, .int .i64 0] 78)
    have hfile := FileAt.made w5 (s.files + 1) ((s.files : Int) + 1) (by omega)
    rw [hFe] at hfile
    have hsz5 : base ≤ w5.heap.size := by have := HB.out; have h1 := HF2.out.size; have h2 := hF5.size; omega
    have hch := change_any (hD5.fr hfa) ⟨nm, ⟨#[]⟩, some F⟩ ⟨HSZ.out.2, Nat.zero_le 64⟩ (show (beginS s).calls ≤ 1000000 by omega) (by have := hfa.size; omega) (fun k hk => by
      obtain rfl : F = k := Option.some.inj hk
      have e : (addFile (beginS s) F).fs F = ⟨s.files + 1, [], 0⟩ := by unfold Go.Proofs.YtlhbgobjhddhlaaGreatDoor.addFile; dsimp only; rw [if_pos rfl, hfl]
      rw [e]
      exact ⟨hfile, by omega, by simp, Nat.le_refl _, by dsimp only; omega⟩)
    rw [show (addFile (beginS s) F).X = s.X from HX.out] at hch
    have hCS : ∀ k, CSet (addFile (beginS s) F) k → CSet s k := fun k hk => by
      rcases hk with e | e | e
      · exact .inl (e.trans HX.out)
      · exact .inr (.inl (e.trans HBS.out.2.1))
      · exact .inr (.inr (by rw [← HBS.out.2.2.2.1]; exact e))
    have HCH := hid hch; have HFE := hid hFe; have HCS := hid hCS; have HFA := hid hfa; have HF5 := hid hF5
    clear hx5 hF5 hfl hca hcc hD5 hfile hsz5 hch hCS hfa
    go_wp2_with fail
    refine HCH.out.mono ?_
    rintro e w6 ⟨rfl, cv, hcn, hd6, hf6⟩
    have hcn' : CvN s.cv cv w := by
      rw [← HBS.out.2.2.2.1]
      exact hcn.older (by have h1 := HF2.out.size; have h2 := HF5.out.size; have h3 := HFA.out.size; omega)
    have HD6 := hid hd6; have HCN := hid hcn'
    clear hcn hcn'
    have HF6 := hid (((HF2.out.trans (U := CSet s) HF5.out (fun _ _ h => .inl h) (fun _ _ h => .inl h)).trans (U := CSet s) HFA.out (fun _ _ h => h) (fun _ _ h => h.elim)).trans (U := CSet s) hf6 (fun _ _ h => h) (fun k _ h => HCS.out k h))
    clear hd6 hf6 c4
    go_wp2_with fail
    go_ret
    exact ⟨rfl, fun h => absurd rfl h, fun _ => ⟨F, cv, by have h1 := HF2.out.size; have h2 := HF5.out.size; have h3 := HFE.out; omega, HCN.out, HD6.out, HF6.out⟩⟩
set_option maxRecDepth 100000 in
set_option maxHeartbeats 3200000 in
theorem remove_any (pa : Nat → Addr) (hS : S6 base w pa) (h : DAt base w s) (nm : ByteArray) (hn : nm.size ≤ 1048576) (hc : s.calls ≤ 1000000) (hb : base ≤ w.heap.size) :
    Calls Tryz.prog 20 #[.pointer (some ⟨s.X, 0, none⟩), .string nm] w fun e w' => e = .returned (errV pa (findE s nm)) ∧
      (findE s nm ≠ 0 → DAt base w' (beginS s) ∧ Fr (fun k => k = s.X) w w') ∧ (findE s nm = 0 → ∃ cv, CvN s.cv cv w ∧ DAt base w' (changeS (beginS s) ⟨⟨#[]⟩, nm, none⟩ cv) ∧ Fr (CSet s) w w') := by
  have HC := hid (find_any pa hS h nm (by unfold maxLen; omega))
  have hbs := beginS_same s
  have HX := hid hbs.1
  have HBS := hid hbs
  rcases find_cases s h.names.2 nm with ⟨k, e1, e2, hm, -, -⟩ | ⟨e1, e2⟩
  · have hns := h.sz.1 _ hm
    dsimp only at hns
    have HCH := hid (fun (w2 : World) (h2 : DAt base w2 (beginS s)) (hb2 : base ≤ w2.heap.size) => change_any h2 ⟨⟨#[]⟩, nm, none⟩ ⟨Nat.zero_le 64, hns⟩ (by rw [hbs.2.2.2.2.2.2.2.2.2.1]; exact hc) hb2 (fun k hk => by cases hk))
    rw [hbs.1] at HCH
    rw [e1, e2] at HC
    rw [e2]
    have z0 : errV pa 0 = .nilIface := rfl
    rw [z0] at HC ⊢
    unfold pV at HC HCH
    have HB := hid hb
    clear e1 e2 hm h hS hns hbs z0 hb hc
    go_enter Tryz.func20, Tryz.ntmps20
    go_wp2_with fail
    refine HC.out.mono ?_
    rintro e w2 ⟨rfl, h2, hf2⟩
    have H2 := hid h2; have HF2 := hid hf2
    clear h2 hf2
    go_wp2_with fail
    refine (HCH.out w2 H2.out (by have := HB.out; have := HF2.out.size; omega)).mono ?_
    rintro e w3 ⟨rfl, cv, hcn, hd3, hf3⟩
    have hcn' : CvN s.cv cv w := by
      rw [← HBS.out.2.2.2.1]
      exact hcn.older HF2.out.size
    have HD3 := hid hd3; have HCN := hid hcn'
    clear hcn hcn'
    have HF3 := hid (HF2.out.trans (U := CSet s) hf3 (fun _ _ h => .inl h) (fun k _ hk => by
      rcases hk with e | e | e
      · exact .inl (e.trans HX.out)
      · exact .inr (.inl (e.trans HBS.out.2.1))
      · exact .inr (.inr (by rw [← HBS.out.2.2.2.1]; exact e))))
    clear hd3 hf3
    go_wp2_with fail
    go_ret
    exact ⟨rfl, fun h => absurd rfl h, fun _ => ⟨cv, HCN.out, HD3.out, HF3.out⟩⟩
  · obtain ⟨p, hp⟩ := errV_some pa (m := findE s nm) (by omega)
    have hne : findE s nm ≠ 0 := by omega
    rw [e1, hp] at HC
    rw [hp]
    have HNE := hid hne
    unfold pV at HC
    clear e1 e2 hp h hS hbs hb hc hne
    go_enter Tryz.func20, Tryz.ntmps20
    go_wp2_with fail
    refine HC.out.mono ?_
    rintro e w2 ⟨rfl, h2, hf2⟩
    have H2 := hid h2; have HF2 := hid hf2
    clear h2 hf2
    go_wp2_with fail
    go_ret
    exact ⟨rfl, fun _ => ⟨H2.out, HF2.out⟩, fun h => absurd h HNE.out⟩
end Go.Proofs.YtlhbgobjhddhlaaGreatDoor
