/- Package disk: Read. -/
import Derived.Test.YtlhbgobjhddhlaaGreatDoorDiskK
namespace Go.Proofs.YtlhbgobjhddhlaaGreatDoor
open Go.RowKit
variable {base : Nat} {w w' : World} {s : DS}

/-- What Read answers. -/
def readE (s : DS) (nm : ByteArray) (o n : Int) : Nat := if fileE s nm ≠ 0 then fileE s nm else if o < 0 ∨ n < 0 ∨ (lenS s nm : Int) < o ∨ (lenS s nm : Int) - o < n then 105 else 0
def readB (s : DS) (nm : ByteArray) (o n : Int) : List UInt8 := match fileP s nm with
  | some k => (((s.fs k).by_.take (o + n).toNat).drop o.toNat)
  | none => []
set_option maxRecDepth 100000 in
set_option maxHeartbeats 3200000 in
theorem read_any (pa : Nat → Addr) (hS : S6 base w pa) (h : DAt base w s) (nm : ByteArray) (hn : nm.size ≤ maxLen) (o n : Int) (ho : -9223372036854775808 ≤ o ∧ o ≤ 9223372036854775807) (hnn : -9223372036854775808 ≤ n ∧ n ≤ 9223372036854775807) :
    Calls Tryz.prog 28 #[.pointer (some ⟨s.X, 0, none⟩), .string nm, .int .i64 o, .int .i64 n] w fun e w' => Fr (fun _ => False) w w' ∧ ∃ v, e = .returned (.tuple #[v, errV pa (readE s nm o n)]) ∧ (readE s nm o n = 0 → OB w.heap.size w' v (readB s nm o n)) ∧ (readE s nm o n ≠ 0 → v = .slice none 0 0) := by
  have HC := hid (file_any pa hS h nm hn)
  rcases file_cases h nm with ⟨k, e1, e2, hm, -, -⟩ | ⟨e1, e2⟩
  rotate_left
  · obtain ⟨p, hp⟩ := errV_some pa (m := fileE s nm) (by omega)
    have hne : fileE s nm ≠ 0 := by omega
    have er : readE s nm o n = fileE s nm := by unfold readE; rw [if_pos hne]
    rw [e1, hp] at HC
    rw [er, hp]
    have HNE := hid hne
    unfold pV at HC
    clear e1 e2 hp h hS er hne
    go_enter Tryz.func28, Tryz.ntmps28
    go_wp2_with fail
    refine HC.out.mono ?_
    rintro e w2 ⟨rfl, hf2⟩
    have HF2 := hid hf2
    clear hf2
    go_wp2_with fail
    go_ret2
    exact ⟨HF2.out, _, rfl, fun h => absurd h HNE.out, fun _ => rfl⟩
  obtain ⟨a, c, f0, f1, f2, hb, -, -, -⟩ := (h.fl k (.inl ⟨nm, hm⟩)).cells
  have hbd := h.bd k (.inl ⟨nm, hm⟩)
  have el : lenS s nm = (s.fs k).by_.length := by unfold lenS; rw [e1]
  have g4 : w.cell? ⟨0, 0, none⟩ = some (.iface 167 (.pointer (some (pa 4)))) := hS.get 4 (by decide)
  rw [e1, e2] at HC
  have z0 : errV pa 0 = .nilIface := rfl
  rw [z0] at HC
  unfold pV at HC
  have F1 := hid f1; have G4 := hid g4
  by_cases hbad : o < 0 ∨ n < 0 ∨ (lenS s nm : Int) < o ∨ (lenS s nm : Int) - o < n
  · have er : readE s nm o n = 105 := by unfold readE; rw [if_neg (by simp [e2]), if_pos hbad]
    rw [er]
    have z1 : errV pa 105 = .iface 167 (.pointer (some (pa 4))) := rfl
    rw [z1]
    rw [el] at hbad
    generalize (s.fs k).by_.length = L at *
    have HW1 := hid (show 0 ≤ o → IntKind.i64.wrap ((L : Int) - o) = (L : Int) - o from fun h => IntWalk.i64_in _ (by omega))
    clear f0 f1 f2 hb e1 e2 el z0 z1 er h hS g4 hm
    go_enter Tryz.func28, Tryz.ntmps28
    go_wp2_with fail
    refine HC.out.mono ?_
    rintro e w2 ⟨rfl, hf2⟩
    have HF2 := hid hf2
    have f1' := hf2.cell F1.out not_false
    have g4' := hf2.cell G4.out not_false
    clear hf2
    have hgo : (o < 0 ∨ 0 ≤ o) ∧ (n < 0 ∨ 0 ≤ n) ∧ ((L : Int) < o ∨ o ≤ L) ∧ ((L : Int) - o < n ∨ n ≤ (L : Int) - o) := by omega
    obtain ⟨h1, h2, h3, h4⟩ := hgo
    rcases h1 with h1 | h1
    · clear h2 h3 h4 hbad
      go_wp2_with fail
      go_quiet (fail)
      go_wp2_with fail
      go_ret2
      exact ⟨HF2.out.drewN _, _, rfl, fun h => by simp at h, fun _ => rfl⟩
    have h1' : ¬ o < 0 := by omega
    have hw1 := HW1.out (by omega)
    rcases h2 with h2 | h2
    · clear h3 h4 hbad
      go_wp2_with fail
      go_quiet (fail)
      go_wp2_with fail
      go_ret2
      exact ⟨HF2.out.drewN _, _, rfl, fun h => by simp at h, fun _ => rfl⟩
    have h2' : ¬ n < 0 := by omega
    rcases h3 with h3 | h3
    · clear h4 hbad
      go_wp2_with fail
      go_quiet (fail)
      go_wp2_with fail
      go_ret2
      exact ⟨HF2.out.drewN _, _, rfl, fun h => by simp at h, fun _ => rfl⟩
    have h3' : ¬ (L : Int) < o := by omega
    have h4' : (L : Int) - o < n := by omega
    clear h4 hbad
    go_wp2_with fail
    go_quiet (fail)
    go_wp2_with fail
    go_ret2
    exact ⟨HF2.out.drewN _, _, rfl, fun h => by simp at h, fun _ => rfl⟩
  · have er : readE s nm o n = 0 := by unfold readE; rw [if_neg (by simp [e2]), if_neg hbad]
    rw [er, z0]
    rw [el] at hbad
    obtain ⟨i, rfl⟩ : ∃ i : Nat, o = (i : Int) := ⟨o.toNat, by omega⟩
    obtain ⟨j, rfl⟩ : ∃ j : Nat, n = (j : Int) := ⟨n.toNat, by omega⟩
    have eb : readB s nm i j = ((s.fs k).by_.take (i + j)).drop i := by
      unfold readB
      rw [e1]
      dsimp only
      rw [Int.toNat_natCast, show ((i : Int) + j).toNat = i + j by omega]
    obtain ⟨l, hl⟩ : ∃ l, (s.fs k).by_ = l := ⟨_, rfl⟩
    rw [hl] at hb f1 hbd hbad eb
    have HE := hid eb; have HB := hid hb; have HBD := hid hbd.1
    have hlc : l.length ≤ c := by
      obtain ⟨a', c', e, h1, h2, -⟩ := id hb
      simp only [Value.slice.injEq] at e
      obtain ⟨-, -, rfl⟩ := e
      exact h1
    have F1' := hid f1
    have k1 : ¬ (i : Int) < 0 := by omega
    have k2 : ¬ (j : Int) < 0 := by omega
    have k3 : ¬ (l.length : Int) < i := by omega
    have k4 : ¬ (l.length : Int) - i < j := by omega
    have k5 : i + j ≤ l.length := by omega
    have w1 : IntKind.i64.wrap ((l.length : Int) - i) = (l.length : Int) - i := IntWalk.i64_in _ (by omega)
    have w2 : IntKind.i64.wrap ((i : Int) + j) = (i : Int) + j := IntWalk.i64_in _ (by omega)
    clear f0 f1 f2 hb e1 e2 el z0 er h hS g4 G4 hm hbd hbad eb F1 hl ho hnn
    go_enter Tryz.func28, Tryz.ntmps28
    go_wp2_with fail
    refine HC.out.mono ?_
    rintro e w2 ⟨rfl, hf2⟩
    have HF2 := hid hf2
    have f1' := hf2.cell F1'.out not_false
    have HB2 := hid (HB.out.frame hf2 fun _ _ => id)
    clear hf2
    go_wp2_with fail
    all_goals
      refine (clone_any _ _ ((l.take (i + j)).drop i) w2 (HB2.out.sub i (i + j) (by omega) k5 (by omega) (by omega) (by split <;> first | rfl | (exfalso; omega))) (by have := HBD.out; simp; omega)).mono ?_
      rintro e w3 ⟨v3, rfl, ho3, hf3⟩
      have HO3 := hid ho3; have HF3 := hid (HF2.out.trans' hf3)
      clear hf3 ho3
      go_wp2_with fail
      go_ret2
      exact ⟨HF3.out, _, rfl, fun _ => by rw [HE.out]; exact own_rebase HO3.out fun q hq => by have h1 := (HO3.out.lt q hq).1; have h2 := HF2.out.size; omega, fun h => absurd rfl h⟩
end Go.Proofs.YtlhbgobjhddhlaaGreatDoor
