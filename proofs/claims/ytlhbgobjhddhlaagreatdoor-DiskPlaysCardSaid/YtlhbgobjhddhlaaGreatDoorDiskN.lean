/- Package disk: Rename. -/
import Derived.Test.YtlhbgobjhddhlaaGreatDoorDiskM
namespace Go.Proofs.YtlhbgobjhddhlaaGreatDoor
open Go.RowKit
variable {base : Nat} {w w' : World} {s : DS}

def renC (nm nt : ByteArray) (k : Nat) : Chg := ⟨nt, if nm = nt then ⟨#[]⟩ else nm, some k⟩
def renE (s : DS) (nm nt : ByteArray) : Nat := if findE s nm ≠ 0 then findE s nm else if okN nt = false then 106 else 0
set_option maxRecDepth 100000 in
set_option maxHeartbeats 3200000 in
theorem rename_any (pa : Nat → Addr) (hS : S6 base w pa) (h : DAt base w s) (nm nt : ByteArray) (hn : nm.size ≤ 1048576) (ht : nt.size ≤ 1048576) (hc : s.calls ≤ 1000000) (hb : base ≤ w.heap.size) :
    Calls Tryz.prog 18 #[.pointer (some ⟨s.X, 0, none⟩), .string nm, .string nt] w fun e w' => e = .returned (errV pa (renE s nm nt)) ∧
      (renE s nm nt ≠ 0 → DAt base w' (beginS s) ∧ Fr (fun k => k = s.X) w w') ∧
      (renE s nm nt = 0 → ∃ k cv, lk s.names nm = some k ∧ CvN s.cv cv w ∧ DAt base w' (changeS (beginS s) (renC nm nt k) cv) ∧ Fr (CSet s) w w') := by
  have HC := hid (find_any pa hS h nm (by unfold maxLen; omega))
  have HS := hid (fun (w2 : World) (hf : Fr (fun k => k = s.X) w w2) => S6.turn hS h hf)
  have hbs := beginS_same s
  have HX := hid hbs.1
  have HBS := hid hbs
  rcases find_cases s h.names.2 nm with ⟨k, e1, e2, hmm, hlk, hbe⟩ | ⟨e1, e2⟩
  rotate_left
  · obtain ⟨p, hp⟩ := errV_some pa (m := findE s nm) (by omega)
    have hne : findE s nm ≠ 0 := by omega
    have er : renE s nm nt = findE s nm := by unfold renE; rw [if_pos hne]
    rw [e1, hp] at HC
    rw [er, hp]
    have HNE := hid hne
    unfold pV at HC
    clear e1 e2 hp h hS hbs hb hc hne er HS
    go_enter Tryz.func18, Tryz.ntmps18
    go_wp2_with fail
    refine HC.out.mono ?_
    rintro e w2 ⟨rfl, h2, hf2⟩
    have H2 := hid h2; have HF2 := hid hf2
    clear h2 hf2
    go_wp2_with fail
    go_ret
    exact ⟨rfl, fun _ => ⟨H2.out, HF2.out⟩, fun h => absurd h HNE.out⟩
  have HV := hid (fun w2 => valid_any nt (by omega) w2)
  rw [e1, e2] at HC
  have z0 : errV pa 0 = .nilIface := rfl
  rw [z0] at HC
  unfold pV at HC
  by_cases hok : okN nt = false
  · have er : renE s nm nt = 106 := by unfold renE; rw [if_neg (by simp [e2]), if_pos hok]
    rw [er]
    have z1 : errV pa 106 = .iface 167 (.pointer (some (pa 5))) := rfl
    rw [z1]
    rw [hok] at HV
    clear e1 e2 z0 z1 hbe hb hc h hS hbs hok hmm hlk er
    go_enter Tryz.func18, Tryz.ntmps18
    go_wp2_with fail
    refine HC.out.mono ?_
    rintro e w2 ⟨rfl, h2, hf2⟩
    have H2 := hid h2; have HF2 := hid hf2
    have g5 : w2.cell? ⟨1, 0, none⟩ = some (.iface 167 (.pointer (some (pa 5)))) := (HS.out w2 hf2).get 5 (by decide)
    clear h2 hf2
    go_wp2_with fail
    refine (HV.out _).mono ?_
    rintro e w3 ⟨rfl, rfl⟩
    go_wp2_with fail
    go_ret
    exact ⟨rfl, fun _ => ⟨H2.out, HF2.out⟩, fun h => by simp at h⟩
  have hok1 : okN nt = true := by simpa using hok
  rw [hok1] at HV
  have hsz := okN_size hok1
  have hns := h.sz.1 _ hmm
  dsimp only at hns
  have er : renE s nm nt = 0 := by unfold renE; rw [if_neg (by simp [e2]), if_neg hok]
  rw [er, z0]
  have hFl : Fl (beginS s) k := by rw [Fl, hbs.2.2.2.2.2.1]; exact .inl ⟨nm, hmm⟩
  have HCH := hid (fun (w2 : World) (h2 : DAt base w2 (beginS s)) (hb2 : base ≤ w2.heap.size) => change_any h2 (renC nm nt k) ⟨hsz.2, by unfold renC; dsimp only; split <;> first | exact Nat.zero_le _ | exact hns⟩ (by rw [hbs.2.2.2.2.2.2.2.2.2.1]; exact hc) hb2 (fun q hq => by
    obtain rfl : k = q := Option.some.inj hq
    exact ⟨h2.fl k hFl, h2.lo k (.inr (.inr (.inr (.inr hFl)))), h2.bd k hFl⟩))
  rw [hbs.1] at HCH
  have HB := hid hb; have HLK := hid hlk
  have HRC := hid (show renC nm nt k = ⟨nt, if nm = nt then ⟨#[]⟩ else nm, some k⟩ from rfl)
  clear e1 e2 hmm hlk hbe h hS hns hbs z0 hb hc HS hok hok1 hsz er hFl
  by_cases heq : nm = nt
  · subst heq
    have hrc := HRC.out
    rw [if_pos rfl] at hrc
    rw [hrc] at HCH
    dsimp only at HCH
    unfold pV at HCH
    have HR2 := hid hrc
    clear hrc HRC
    go_enter Tryz.func18, Tryz.ntmps18
    go_wp2_with fail
    refine HC.out.mono ?_
    rintro e w2 ⟨rfl, h2, hf2⟩
    have H2 := hid h2; have HF2 := hid hf2
    clear h2 hf2
    go_wp2_with fail
    refine (HV.out _).mono ?_
    rintro e w3 ⟨rfl, rfl⟩
    have hfa := (Fr.refl (fun _ => False) w2).alloc (.cells #[.string nm, .string ⟨#[]⟩, .pointer (some ⟨k, 0, none⟩)] 82)
    have HFA := hid hfa
    clear hfa
    go_wp2_with fail
    refine (HCH.out _ (H2.out.fr HFA.out) (by have := HB.out; have := HF2.out.size; have := HFA.out.size; omega)).mono ?_
    rintro e w3 ⟨rfl, cv, hcn, hd3, hf3⟩
    have hcn' : CvN s.cv cv w := by
      rw [← HBS.out.2.2.2.1]
      exact hcn.older (by have h1 := HF2.out.size; have h2 := HFA.out.size; omega)
    have HD3 := hid hd3; have HCN := hid hcn'
    clear hcn hcn'
    have HF3 := hid ((HF2.out.trans' (HFA.out.mono fun _ _ h => h.elim)).trans (U := CSet s) hf3 (fun _ _ h => .inl h) (fun k _ hk => by
      rcases hk with e | e | e
      · exact .inl (e.trans HX.out)
      · exact .inr (.inl (e.trans HBS.out.2.1))
      · exact .inr (.inr (by rw [← HBS.out.2.2.2.1]; exact e))))
    clear hd3 hf3
    go_wp2_with fail
    go_ret
    exact ⟨rfl, fun h => absurd rfl h, fun _ => ⟨k, cv, HLK.out, HCN.out, by rw [HR2.out]; exact HD3.out, HF3.out⟩⟩
  · have hrc := HRC.out
    rw [if_neg heq] at hrc
    rw [hrc] at HCH
    dsimp only at HCH
    unfold pV at HCH
    have HR2 := hid hrc
    have hbe : (nm.toList == nt.toList) = false := by rw [beq_eq_false_iff_ne]; exact fun e => heq (ba_toList_inj' e)
    clear hrc HRC heq
    go_enter Tryz.func18, Tryz.ntmps18
    go_wp2_with fail
    refine HC.out.mono ?_
    rintro e w2 ⟨rfl, h2, hf2⟩
    have H2 := hid h2; have HF2 := hid hf2
    clear h2 hf2
    go_wp2_with fail
    refine (HV.out _).mono ?_
    rintro e w3 ⟨rfl, rfl⟩
    have hfa := (Fr.refl (fun _ => False) w2).alloc (.cells #[.string nt, .string nm, .pointer (some ⟨k, 0, none⟩)] 82)
    have HFA := hid hfa
    clear hfa
    go_wp2_with fail
    refine (HCH.out _ (H2.out.fr HFA.out) (by have := HB.out; have := HF2.out.size; have := HFA.out.size; omega)).mono ?_
    rintro e w3 ⟨rfl, cv, hcn, hd3, hf3⟩
    have hcn' : CvN s.cv cv w := by
      rw [← HBS.out.2.2.2.1]
      exact hcn.older (by have h1 := HF2.out.size; have h2 := HFA.out.size; omega)
    have HD3 := hid hd3; have HCN := hid hcn'
    clear hcn hcn'
    have HF3 := hid ((HF2.out.trans' (HFA.out.mono fun _ _ h => h.elim)).trans (U := CSet s) hf3 (fun _ _ h => .inl h) (fun k _ hk => by
      rcases hk with e | e | e
      · exact .inl (e.trans HX.out)
      · exact .inr (.inl (e.trans HBS.out.2.1))
      · exact .inr (.inr (by rw [← HBS.out.2.2.2.1]; exact e))))
    clear hd3 hf3
    go_wp2_with fail
    go_ret
    exact ⟨rfl, fun h => absurd rfl h, fun _ => ⟨k, cv, HLK.out, HCN.out, by rw [HR2.out]; exact HD3.out, HF3.out⟩⟩
end Go.Proofs.YtlhbgobjhddhlaaGreatDoor
