/- Package disk: Cut. -/
import Derived.Test.YtlhbgobjhddhlaaGreatDoorDiskL
namespace Go.Proofs.YtlhbgobjhddhlaaGreatDoor
open Go.RowKit
variable {base : Nat} {w w' : World} {s : DS}

def lenN (s : DS) (nm : ByteArray) : Nat := match lk s.names nm with
  | some k => (s.fs k).by_.length
  | none => 0
def cutE (s : DS) (nm : ByteArray) (n : Int) : Nat := if findE s nm ≠ 0 then findE s nm else if n < 0 ∨ (lenN s nm : Int) < n then 105 else 0
set_option maxRecDepth 100000 in
set_option maxHeartbeats 3200000 in
theorem cut_any (pa : Nat → Addr) (hS : S6 base w pa) (h : DAt base w s) (nm : ByteArray) (hn : nm.size ≤ 1048576) (n : Int) (hnn : -9223372036854775808 ≤ n ∧ n ≤ 9223372036854775807) (hc : s.calls ≤ 1000000) :
    Calls Tryz.prog 14 #[.pointer (some ⟨s.X, 0, none⟩), .string nm, .int .i64 n] w fun e w' => e = .returned (errV pa (cutE s nm n)) ∧
      (cutE s nm n ≠ 0 → DAt base w' (beginS s) ∧ Fr (fun k => k = s.X) w w') ∧
      (cutE s nm n = 0 → ∃ k, lk s.names nm = some k ∧ DAt base w' (fsUp (beginS s) k ⟨(s.fs k).id, (s.fs k).by_.take n.toNat, n.toNat⟩) ∧ Fr (fun q => q = k ∨ q = s.X) w w') := by
  have HC := hid (find_any pa hS h nm (by unfold maxLen; omega))
  have hbs := beginS_same s
  have HX := hid hbs.1
  have HBS := hid hbs
  have HS := hid (fun (w2 : World) (hf : Fr (fun k => k = s.X) w w2) => S6.turn hS h hf)
  rcases find_cases s h.names.2 nm with ⟨k, e1, e2, hmm, hlk, hbe⟩ | ⟨e1, e2⟩
  rotate_left
  · obtain ⟨p, hp⟩ := errV_some pa (m := findE s nm) (by omega)
    have hne : findE s nm ≠ 0 := by omega
    have ec : cutE s nm n = findE s nm := by unfold cutE; rw [if_pos hne]
    rw [e1, hp] at HC
    rw [ec, hp]
    have HNE := hid hne
    unfold pV at HC
    clear e1 e2 hp h hS hbs hc hne ec
    go_enter Tryz.func14, Tryz.ntmps14
    go_wp2_with fail
    refine HC.out.mono ?_
    rintro e w2 ⟨rfl, h2, hf2⟩
    have H2 := hid h2; have HF2 := hid hf2
    clear h2 hf2
    go_wp2_with fail
    go_ret
    exact ⟨rfl, fun _ => ⟨H2.out, HF2.out⟩, fun h => absurd h HNE.out⟩
  have hbd := h.bd k (.inl ⟨nm, hmm⟩)
  have el : lenN s nm = (s.fs k).by_.length := by unfold lenN; rw [hlk]
  rw [e1, e2] at HC
  have z0 : errV pa 0 = .nilIface := rfl
  rw [z0] at HC
  unfold pV at HC
  have HK := hid (show Fl (beginS s) k by rw [Fl, hbs.2.2.2.2.2.1]; exact .inl ⟨nm, hmm⟩)
  have HLK := hid hlk; have HBD := hid hbd; have HCC := hid hc
  have hfs : (beginS s).fs = s.fs := hbs.2.2.2.2.2.2.2.2.2.2
  have HFS := hid hfs
  by_cases hbad : n < 0 ∨ (lenN s nm : Int) < n
  · have ec : cutE s nm n = 105 := by unfold cutE; rw [if_neg (by simp [e2]), if_pos hbad]
    rw [ec]
    have z1 : errV pa 105 = .iface 167 (.pointer (some (pa 4))) := rfl
    rw [z1]
    rw [el] at hbad
    have HBAD := hid hbad
    clear e1 e2 h hS hbs hbd z0 hmm hlk hbe hfs el ec z1 hbad hc
    go_enter Tryz.func14, Tryz.ntmps14
    go_wp2_with fail
    refine HC.out.mono ?_
    rintro e wy ⟨rfl, h2, hf2⟩
    have H2 := hid h2; have HF2 := hid hf2
    have hfa := h2.fl k HK.out
    rw [HFS.out] at hfa
    obtain ⟨a, c, -, f1, -⟩ := hfa.cells
    have g4 : wy.cell? ⟨0, 0, none⟩ = some (.iface 167 (.pointer (some (pa 4)))) := (HS.out wy hf2).get 4 (by decide)
    have hbad := HBAD.out
    clear h2 hf2 hfa
    generalize (s.fs k).by_.length = L at *
    by_cases h1 : n < 0
    · clear hbad
      go_wp2_with fail
      go_ret
      exact ⟨rfl, fun _ => ⟨H2.out, HF2.out⟩, fun h => by simp at h⟩
    · have h2 : (L : Int) < n := by omega
      clear hbad
      go_wp2_with fail
      go_ret
      exact ⟨rfl, fun _ => ⟨H2.out, HF2.out⟩, fun h => by simp at h⟩
  · have ec : cutE s nm n = 0 := by unfold cutE; rw [if_neg (by simp [e2]), if_neg hbad]
    rw [ec, z0]
    rw [el] at hbad
    obtain ⟨i, rfl⟩ : ∃ i : Nat, n = (i : Int) := ⟨n.toNat, by omega⟩
    rw [Int.toNat_natCast]
    have hil : i ≤ (s.fs k).by_.length := by omega
    have HIL := hid hil
    clear e1 e2 h hS hbs hbd z0 hmm hlk hbe hfs el ec hbad hc hnn hil HS
    go_enter Tryz.func14, Tryz.ntmps14
    go_wp2_with fail
    refine HC.out.mono ?_
    rintro e wy ⟨rfl, h2, hf2⟩
    have HD2 := hid h2; have HFy := hid hf2
    clear h2 hf2
    have hfs := HFS.out
    have hfa := HD2.out.fl k HK.out
    rw [hfs] at hfa
    obtain ⟨a, c, f0, f1, f2, hbs1, ffz, hhk, -⟩ := hfa.cells
    obtain ⟨l, hl⟩ : ∃ l, (s.fs k).by_ = l := ⟨_, rfl⟩
    have ht := hfa.typed
    have hil := HIL.out
    rw [hl] at f1 hhk hbs1 hil
    have hup : (Bs (BB wy) wy (.slice a i c) (l.take i)) ∧ l.length ≤ c := by
      obtain ⟨a', c', e, h1, h2, h3⟩ := hbs1
      simp only [Value.slice.injEq] at e
      obtain ⟨rfl, -, rfl⟩ := e
      refine ⟨⟨_, _, by rw [List.length_take, Nat.min_eq_left hil], by rw [List.length_take, Nat.min_eq_left hil]; omega, h2, fun q hq => ?_⟩, h1⟩
      have hq' : q < i := by rw [List.length_take, Nat.min_eq_left hil] at hq; exact hq
      obtain ⟨b, o, e, hD, hc⟩ := h3 q (by omega)
      exact ⟨b, o, e, hD, by rw [hc]; simp [List.getD, List.getElem?_take, hq']⟩
    have hbd := HBD.out.1
    rw [hl] at hbd
    have hlt : (l.take i).length = i := by rw [List.length_take, Nat.min_eq_left hil]
    have k1 : ¬ (i : Int) < 0 := by omega
    have k2 : ¬ (l.length : Int) < i := by omega
    have hlc := hup.2
    have HUP := hid (clone_any _ _ (l.take i) wy hup.1 (by omega))
    have HHK := hid hhk; have HT := hid ht; have HL := hid hl; have HLT := hid hlt
    clear hfs hfa f0 f2 hbs1 ffz hhk ht hl hup hlt
    go_wp2_with fail
    refine HUP.out.mono ?_
    rintro e w6 ⟨v', rfl, ho6, hf6⟩
    have hh6 := hf6.heap HHK.out not_false
    have hne6 := own_ne_cells ho6 hh6 (by decide)
    have hNV : NV v' := by
      rcases own_heap ho6 with ⟨e, -⟩ | ⟨g, cap, e, -⟩
      · exact .inl e
      · exact .inr ⟨_, _, _, e⟩
    have hBy : ∀ q, v'.ownBlock = some q → BB w6 q := fun q hq => by
      rcases ho6.2 with ⟨e, -⟩ | ⟨g, cap, cur, e, -, hg, -⟩
      · rw [e] at hq; cases hq
      · rw [e] at hq
        simp only [Value.ownBlock, Option.some.injEq] at hq
        subst hq
        exact ⟨_, _, hg⟩
    have hB6 := Bs.own ho6
    obtain ⟨a8, c8, hv8, -⟩ := own_len ho6
    have hh7 := setCell_row 2 (.int .i64 (i : Int)) (setCell_row 1 v' hh6)
    simp only [List.setIfInBounds_toArray, List.set_cons_zero, List.set_cons_succ] at hh7
    have hf67 : Fr (fun j => j = k) w6 ((w6.setCell ⟨k, 1, none⟩ v').setCell ⟨k, 2, none⟩ (.int .i64 (i : Int))) := Fr.setCell (S := fun j => j = k) (Fr.setCell (S := fun j => j = k) (Fr.refl _ _) (p := ⟨k, 1, none⟩) (.inl rfl) v') (p := ⟨k, 2, none⟩) (.inl rfl) _
    have hF7 : Fr (fun j => j = k) wy ((w6.setCell ⟨k, 1, none⟩ v').setCell ⟨k, 2, none⟩ (.int .i64 (i : Int))) := (hf6.mono fun _ _ h => h.elim).trans' hf67
    have hfile : FileAt ((w6.setCell ⟨k, 1, none⟩ v').setCell ⟨k, 2, none⟩ (.int .i64 (i : Int))) k ⟨(s.fs k).id, l.take i, i⟩ := ⟨v', hh7, (hB6.frame hf67 hne6).mono fun q _ hq => (hBy q hq).frame hf67 (hne6 q hq), hNV⟩
    have hca : (beginS s).calls = s.calls := HBS.out.2.2.2.2.2.2.2.2.2.1
    have hcc := HCC.out
    have hfin := HD2.out.fsUp HK.out ⟨(s.fs k).id, l.take i, i⟩ hF7 hfile ⟨by dsimp only; rw [HLT.out]; omega, by dsimp only; rw [HLT.out]; exact Nat.le_refl _, by dsimp only; exact HBD.out.2.2⟩ (by omega) (j := (s.calls : Int) + 1) (by rw [hca]) rfl
    rw [HX.out] at hfin
    have hx7 := hF7.heap HD2.out.heap (fun e => by
      have := HT.out.2 _ _ _ (by rw [← e]; exact HD2.out.heap)
      exact absurd this (by decide))
    rw [HX.out] at hx7
    have x7 : ((w6.setCell ⟨k, 1, none⟩ v').setCell ⟨k, 2, none⟩ (.int .i64 (i : Int))).cell? ⟨s.X, 7, none⟩ = some (.int .i64 s.calls) := by rw [cell_of_row _ _ _ _ _ _ hx7, hca]; rfl
    have xf : ((w6.setCell ⟨k, 1, none⟩ v').setCell ⟨k, 2, none⟩ (.int .i64 (i : Int))).frozen? ⟨s.X, 7, none⟩ = false := frozen_of_row _ _ _ _ _ hx7
    have kf : w6.frozen? ⟨k, 1, none⟩ = false := frozen_of_row _ _ _ _ _ hh6
    have kc : w6.cell? ⟨k, 1, none⟩ = some (.slice a l.length c) := by rw [cell_of_row _ _ _ _ _ _ hh6]; rfl
    have hh61 := setCell_row 1 v' hh6
    have kf2 : (w6.setCell ⟨k, 1, none⟩ v').frozen? ⟨k, 2, none⟩ = false := frozen_of_row _ _ _ _ _ hh61
    have kc2 : (w6.setCell ⟨k, 1, none⟩ v').cell? ⟨k, 2, none⟩ = some (.int .i64 (s.fs k).sy) := by rw [cell_of_row _ _ _ _ _ _ hh61]; rfl
    have hw7 : IntKind.i64.wrap ((s.calls : Int) + 1) = (s.calls : Int) + 1 := IntWalk.i64_in _ (by omega)
    have HFIN := hid hfin
    clear hh6 hne6 hNV hBy hB6 hh7 hf67 hF7 hfile hca hcc hfin hx7 hh61 ho6 hf6
    rw [HLT.out] at hv8
    subst hv8
    go_wp2_with fail
    go_ret
    refine ⟨rfl, fun h => absurd rfl h, fun _ => ⟨k, HLK.out, ?_, ?_⟩⟩
    · rw [HL.out]; exact HFIN.out.1
    · exact HFy.out.trans (U := fun q => q = k ∨ q = s.X) HFIN.out.2 (fun _ _ h => .inr h) (fun _ _ h => h)
end Go.Proofs.YtlhbgobjhddhlaaGreatDoor
