/- Package disk: file, find, Len, Synced, Used, Down, Calls, Arm, New. -/
import Derived.Test.YtlhbgobjhddhlaaGreatDoorDiskA
namespace Go.Proofs.YtlhbgobjhddhlaaGreatDoor
open Go.RowKit
variable {base : Nat} {w w' : World} {s : DS}

def fileP (s : DS) (nm : ByteArray) : Option Nat := if s.down then none else lk s.names nm
def fileE (s : DS) (nm : ByteArray) : Nat := if s.down then 110 else if lk s.names nm = none then 107 else 0
theorem file_cases (h : DAt base w s) (nm : ByteArray) : (∃ k, fileP s nm = some k ∧ fileE s nm = 0 ∧ (nm, k) ∈ s.names ∧ lk s.names nm = some k ∧ s.down = false) ∨ (fileP s nm = none ∧ (fileE s nm = 107 ∨ fileE s nm = 110)) := by
  unfold fileP fileE
  cases hd : s.down
  · cases hl : lk s.names nm with
    | none => exact .inr ⟨by simp, by simp⟩
    | some k => exact .inl ⟨k, by simp, by simp, (lk_mem h.names.2).1 hl, rfl, rfl⟩
  · exact .inr ⟨by simp, by simp⟩
theorem errV_some (pa : Nat → Addr) {m : Nat} (hm : m ≠ 0) : ∃ p, errV pa m = .iface 167 (.pointer (some p)) := ⟨_, by unfold errV; rw [if_neg hm]⟩
set_option maxRecDepth 100000 in
set_option maxHeartbeats 1600000 in
theorem file_any (pa : Nat → Addr) (hS : S6 base w pa) (h : DAt base w s) (nm : ByteArray) (hn : nm.size ≤ maxLen) :
    Calls Tryz.prog 58 #[.pointer (some ⟨s.X, 0, none⟩), .string nm] w fun e w' => e = .returned (.tuple #[pV (fileP s nm), errV pa (fileE s nm)]) ∧ Fr (fun _ => False) w w' := by
  obtain ⟨-, c1, -, -, -, -, c6, -, -⟩ := h.cells
  obtain ⟨g9, -⟩ : w.cell? ⟨4, 0, none⟩ = some (.iface 167 (.pointer (some (pa 9)))) ∧ 4 < base := hS 9 (by decide)
  obtain ⟨g6, -⟩ : w.cell? ⟨5, 0, none⟩ = some (.iface 167 (.pointer (some (pa 6)))) ∧ 5 < base := hS 6 (by decide)
  have hlk := h.names.look hn
  clear h hS
  by_cases hd : s.down = true
  · have e1 : fileE s nm = 110 := by unfold fileE; rw [if_pos hd]
    have e2 : fileP s nm = none := by unfold fileP; rw [if_pos hd]
    rw [e1, e2]
    rw [hd] at c6
    clear hd e1 e2 hlk g6
    go_enter Tryz.func58, Tryz.ntmps58
    go_wp2_with fail
    go_quiet (fail)
    go_wp2_with fail
    go_ret2
    exact ⟨rfl, (Fr.refl _ _).drewN _⟩
  have hd0 : s.down = false := by simpa using hd
  rw [hd0] at c6
  cases hl : lk s.names nm with
  | none =>
    have e1 : fileE s nm = 107 := by unfold fileE; rw [if_neg hd, if_pos hl]
    have e2 : fileP s nm = none := by unfold fileP; rw [if_neg hd, hl]
    rw [e1, e2]
    rw [hl] at hlk
    unfold pV at hlk
    clear hd hd0 e1 e2 hl g9
    go_enter Tryz.func58, Tryz.ntmps58
    go_wp2_with fail
    go_quiet (fail)
    go_wp2_with fail
    go_ret2
    exact ⟨rfl, (Fr.refl _ _).drewN _⟩
  | some k =>
    have e1 : fileE s nm = 0 := by unfold fileE; rw [if_neg hd, if_neg (by rw [hl]; simp)]
    have e2 : fileP s nm = some k := by unfold fileP; rw [if_neg hd, hl]
    rw [e1, e2]
    rw [hl] at hlk
    unfold pV at hlk
    clear hd hd0 e1 e2 hl g9 g6
    go_enter Tryz.func58, Tryz.ntmps58
    go_wp2_with fail
    go_ret2
    exact ⟨rfl, Fr.refl _ _⟩
def findE (s : DS) (nm : ByteArray) : Nat := if beginE s = 0 then (if lk s.names nm = none then 107 else 0) else 110
def findP (s : DS) (nm : ByteArray) : Option Nat := if beginE s = 0 then lk s.names nm else none
theorem begin_no (s : DS) : beginE s = 0 ∨ beginE s = 110 := by
  unfold beginE
  split
  · exact .inr rfl
  · split
    · exact .inr rfl
    · exact .inl rfl
theorem begin_zero {s : DS} (h : beginE s = 0) : (beginS s).down = false ∧ s.down = false := by
  unfold beginE at h
  unfold beginS
  cases hd : s.down
  · rw [hd] at h
    simp only [Bool.false_eq_true, if_false] at h ⊢
    by_cases e : s.armed = 1
    · rw [if_pos e] at h; cases h
    · refine ⟨?_, trivial⟩
      split
      · simpa using e
      · exact hd
  · rw [hd] at h
    simp at h
theorem beginS_same (s : DS) : (beginS s).X = s.X ∧ (beginS s).bn = s.bn ∧ (beginS s).bk = s.bk ∧ (beginS s).cv = s.cv ∧ (beginS s).room = s.room ∧ (beginS s).names = s.names ∧ (beginS s).kept = s.kept ∧ (beginS s).ch = s.ch ∧ (beginS s).files = s.files ∧ (beginS s).calls = s.calls ∧ (beginS s).fs = s.fs := by
  unfold beginS
  split
  · exact ⟨rfl, rfl, rfl, rfl, rfl, rfl, rfl, rfl, rfl, rfl, rfl⟩
  · split <;> exact ⟨rfl, rfl, rfl, rfl, rfl, rfl, rfl, rfl, rfl, rfl, rfl⟩
theorem find_cases (s : DS) (hk : Ks s.names) (nm : ByteArray) : (∃ k, findP s nm = some k ∧ findE s nm = 0 ∧ (nm, k) ∈ s.names ∧ lk s.names nm = some k ∧ beginE s = 0) ∨ (findP s nm = none ∧ (findE s nm = 107 ∨ findE s nm = 110)) := by
  unfold findP findE
  by_cases hb : beginE s = 0
  · rw [if_pos hb, if_pos hb]
    cases hl : lk s.names nm with
    | none => exact .inr ⟨rfl, by simp⟩
    | some k => exact .inl ⟨k, rfl, by simp, (lk_mem hk).1 hl, rfl, hb⟩
  · rw [if_neg hb, if_neg hb]
    exact .inr ⟨rfl, .inr rfl⟩
set_option maxRecDepth 100000 in
set_option maxHeartbeats 1600000 in
theorem find_any (pa : Nat → Addr) (hS : S6 base w pa) (h : DAt base w s) (nm : ByteArray) (hn : nm.size ≤ maxLen) :
    Calls Tryz.prog 45 #[.pointer (some ⟨s.X, 0, none⟩), .string nm] w fun e w' => e = .returned (.tuple #[pV (findP s nm), errV pa (findE s nm)]) ∧ DAt base w' (beginS s) ∧ Fr (fun k => k = s.X) w w' := by
  have HC := hid (begin_any pa hS h)
  have HF := hid (fun (w2 : World) (h2 : DAt base w2 (beginS s)) (hf : Fr (fun k => k = s.X) w w2) => file_any (s := beginS s) pa (hS.frame hf fun k e => by rw [e]; exact h.lo _ (.inl rfl)) h2 nm hn)
  rw [(beginS_same s).1] at HF
  have hbn := begin_no s
  have hbz := begin_zero (s := s)
  clear h hS
  by_cases hb : beginE s = 0
  · have e1 : findP s nm = fileP (beginS s) nm := by unfold findP fileP; rw [if_pos hb, (hbz hb).1, (beginS_same s).2.2.2.2.2.1]; rfl
    have e2 : findE s nm = fileE (beginS s) nm := by unfold findE fileE; rw [if_pos hb, (hbz hb).1, (beginS_same s).2.2.2.2.2.1]; rfl
    rw [e1, e2]
    rw [hb] at HC
    have z0 : errV pa 0 = .nilIface := rfl
    rw [z0] at HC
    generalize fileP (beginS s) nm = fp at *
    generalize errV pa (fileE (beginS s) nm) = fe at *
    clear e1 e2 hb hbn hbz z0
    go_enter Tryz.func45, Tryz.ntmps45
    go_wp2_with fail
    refine HC.out.mono ?_
    rintro e w2 ⟨rfl, h2, hf2⟩
    have H2 := hid h2; have HF2 := hid hf2
    clear h2 hf2
    go_wp2_with fail
    refine (HF.out w2 H2.out HF2.out).mono ?_
    rintro e w3 ⟨rfl, hf3⟩
    have H3 := hid (H2.out.fr hf3); have HF3 := hid (HF2.out.trans' (hf3.mono fun _ _ h => h.elim))
    clear hf3
    go_wp2_with fail
    go_ret2
    exact ⟨rfl, H3.out, HF3.out⟩
  · have hb1 : beginE s = 110 := by omega
    have e1 : findP s nm = none := by unfold findP; rw [if_neg hb]
    have e2 : findE s nm = 110 := by unfold findE; rw [if_neg hb]
    rw [e1, e2]
    rw [hb1] at HC
    have z0 : errV pa 110 = .iface 167 (.pointer (some (pa 9))) := rfl
    rw [z0] at HC ⊢
    clear e1 e2 hb hbn hbz z0 hb1 HF
    go_enter Tryz.func45, Tryz.ntmps45
    go_wp2_with fail
    refine HC.out.mono ?_
    rintro e w2 ⟨rfl, h2, hf2⟩
    have H2 := hid h2; have HF2 := hid hf2
    clear h2 hf2
    go_wp2_with fail
    go_ret2
    exact ⟨rfl, H2.out, HF2.out⟩
theorem FileAt.lt {k : Nat} {f : FS} (h : FileAt w k f) : k < w.heap.size := by
  obtain ⟨v, hh, -⟩ := h
  exact heap_lt hh
theorem FileAt.cells {k : Nat} {f : FS} (h : FileAt w k f) : ∃ a c, w.cell? ⟨k, 0, none⟩ = some (.int .i64 f.id) ∧ w.cell? ⟨k, 1, none⟩ = some (.slice a f.by_.length c) ∧ w.cell? ⟨k, 2, none⟩ = some (.int .i64 f.sy) ∧ Bs (BB w) w (.slice a f.by_.length c) f.by_ ∧ (∀ i, w.frozen? ⟨k, i, none⟩ = false) ∧ w.heap[k]? = some (.cells #[.int .i64 f.id, .slice a f.by_.length c, .int .i64 f.sy] 78 (0, 0)) ∧ NV (.slice a f.by_.length c) := by
  obtain ⟨v, hh, hb, hv⟩ := h
  obtain ⟨a, c, rfl, -⟩ := id hb
  refine ⟨a, c, ?_, ?_, ?_, hb, fun i => frozen_of_row _ _ i _ _ hh, hh, hv⟩
  all_goals (rw [cell_of_row _ _ _ _ _ _ hh]; rfl)
def lenS (s : DS) (nm : ByteArray) : Nat := match fileP s nm with
  | some k => (s.fs k).by_.length
  | none => 0
def synS (s : DS) (nm : ByteArray) : Nat := match fileP s nm with
  | some k => (s.fs k).sy
  | none => 0
set_option maxRecDepth 100000 in
set_option maxHeartbeats 1600000 in
theorem len_any (pa : Nat → Addr) (hS : S6 base w pa) (h : DAt base w s) (nm : ByteArray) (hn : nm.size ≤ maxLen) :
    Calls Tryz.prog 32 #[.pointer (some ⟨s.X, 0, none⟩), .string nm] w fun e w' => e = .returned (.tuple #[.int .i64 (lenS s nm), errV pa (fileE s nm)]) ∧ Fr (fun _ => False) w w' := by
  have HC := hid (file_any pa hS h nm hn)
  rcases file_cases h nm with ⟨k, e1, e2, hm, -, -⟩ | ⟨e1, e2⟩
  · obtain ⟨a, c, f0, f1, f2, -⟩ := (h.fl k (.inl ⟨nm, hm⟩)).cells
    have el : lenS s nm = (s.fs k).by_.length := by unfold lenS; rw [e1]
    rw [e1, e2] at HC
    rw [e2, el]
    have z0 : errV pa 0 = .nilIface := rfl
    rw [z0] at HC ⊢
    unfold pV at HC
    generalize (s.fs k).by_.length = n at *
    generalize (s.fs k).sy = sy at *
    have F1 := hid f1
    clear f0 f1 f2 hm e1 e2 el z0 h hS
    go_enter Tryz.func32, Tryz.ntmps32
    go_wp2_with fail
    refine HC.out.mono ?_
    rintro e w2 ⟨rfl, hf2⟩
    have f1' := hf2.cell F1.out not_false
    have HF2 := hid hf2
    clear hf2
    go_wp2_with fail
    go_ret2
    exact ⟨rfl, HF2.out⟩
  · obtain ⟨p, hp⟩ := errV_some pa (m := fileE s nm) (by omega)
    have el : lenS s nm = 0 := by unfold lenS; rw [e1]
    rw [e1, hp] at HC
    rw [hp, el]
    unfold pV at HC
    clear e1 e2 el hp h hS
    go_enter Tryz.func32, Tryz.ntmps32
    go_wp2_with fail
    refine HC.out.mono ?_
    rintro e w2 ⟨rfl, hf2⟩
    have HF2 := hid hf2
    clear hf2
    go_wp2_with fail
    go_ret2
    exact ⟨rfl, HF2.out⟩
set_option maxRecDepth 100000 in
set_option maxHeartbeats 1600000 in
theorem synced_any (pa : Nat → Addr) (hS : S6 base w pa) (h : DAt base w s) (nm : ByteArray) (hn : nm.size ≤ maxLen) :
    Calls Tryz.prog 59 #[.pointer (some ⟨s.X, 0, none⟩), .string nm] w fun e w' => e = .returned (.tuple #[.int .i64 (synS s nm), errV pa (fileE s nm)]) ∧ Fr (fun _ => False) w w' := by
  have HC := hid (file_any pa hS h nm hn)
  rcases file_cases h nm with ⟨k, e1, e2, hm, -, -⟩ | ⟨e1, e2⟩
  · obtain ⟨a, c, f0, f1, f2, -⟩ := (h.fl k (.inl ⟨nm, hm⟩)).cells
    have el : synS s nm = (s.fs k).sy := by unfold synS; rw [e1]
    rw [e1, e2] at HC
    rw [e2, el]
    have z0 : errV pa 0 = .nilIface := rfl
    rw [z0] at HC ⊢
    unfold pV at HC
    generalize (s.fs k).by_.length = n at *
    generalize (s.fs k).sy = sy at *
    have F1 := hid f2
    clear f0 f1 f2 hm e1 e2 el z0 h hS
    go_enter Tryz.func59, Tryz.ntmps59
    go_wp2_with fail
    refine HC.out.mono ?_
    rintro e w2 ⟨rfl, hf2⟩
    have f1' := hf2.cell F1.out not_false
    have HF2 := hid hf2
    clear hf2
    go_wp2_with fail
    go_ret2
    exact ⟨rfl, HF2.out⟩
  · obtain ⟨p, hp⟩ := errV_some pa (m := fileE s nm) (by omega)
    have el : synS s nm = 0 := by unfold synS; rw [e1]
    rw [e1, hp] at HC
    rw [hp, el]
    unfold pV at HC
    clear e1 e2 el hp h hS
    go_enter Tryz.func59, Tryz.ntmps59
    go_wp2_with fail
    refine HC.out.mono ?_
    rintro e w2 ⟨rfl, hf2⟩
    have HF2 := hid hf2
    clear hf2
    go_wp2_with fail
    go_ret2
    exact ⟨rfl, HF2.out⟩
def sumF (g : Nat → Nat) : Nm → Nat
  | [] => 0
  | p :: r => g p.2 + sumF g r
theorem sumF_dl (g : Nat → Nat) : ∀ {L : Nm} {n : ByteArray} {f : Nat}, Ks L → (n, f) ∈ L → sumF g L = g f + sumF g (dl L n)
  | [], n, f, _, h => by simp at h
  | p :: r, n, f, hk, h => by
    unfold Ks at hk
    rw [List.map_cons, List.nodup_cons] at hk
    by_cases e : p.1 = n
    · have hnr : dl (p :: r) n = r := by
        unfold dl
        rw [List.filter_cons, if_neg (by simp [e]), List.filter_eq_self]
        intro q hq
        have : q.1 ≠ n := fun e2 => hk.1 (List.mem_map.2 ⟨q, hq, by rw [e2, e]⟩)
        simp [this]
      rw [hnr]
      have hf : p = (n, f) := by
        rcases List.mem_cons.1 h with h1 | h1
        · exact h1.symm
        · exact absurd (List.mem_map.2 ⟨_, h1, rfl⟩) (by rw [e] at hk; exact hk.1)
      rw [hf]
      rfl
    · have hd : dl (p :: r) n = p :: dl r n := by
        unfold dl
        rw [List.filter_cons, if_pos (by simp [e])]
      have hm : (n, f) ∈ r := by
        rcases List.mem_cons.1 h with h1 | h1
        · exact absurd (by rw [← h1]) e
        · exact h1
      rw [hd, sumF, sumF, sumF_dl g hk.2 hm]
      omega
theorem sumF_le (g : Nat → Nat) (B : Nat) : ∀ (L : Nm), (∀ p ∈ L, g p.2 ≤ B) → sumF g L ≤ B * L.length
  | [], _ => Nat.zero_le _
  | p :: r, h => by
    have h1 := sumF_le g B r fun q hq => h q (by simp [hq])
    have h2 := h p (by simp)
    rw [sumF, List.length_cons, Nat.mul_succ]
    omega
def usedS (s : DS) : Nat := sumF (fun k => (s.fs k).by_.length) s.names
theorem RangeAt.lsub {b r : Nat} {M L : Nm} (h : RangeAt w b r M L) : (∀ p ∈ L, p ∈ M) ∧ Ks L ∧ L.length ≤ M.length := by
  obtain ⟨es, left, cnt, -, -, hk, rfl⟩ := h
  refine ⟨fun p hp => (List.mem_filter.1 hp).1, ?_, List.length_filter_le _ _⟩
  unfold Ks at *
  exact hk.sublist (List.Sublist.map _ List.filter_sublist)
set_option maxRecDepth 100000 in
set_option maxHeartbeats 1600000 in
theorem used_any (h : DAt base w s) (hc : s.calls ≤ 1000000) :
    Calls Tryz.prog 9 #[.pointer (some ⟨s.X, 0, none⟩)] w fun e w' => e = .returned (.int .i64 (usedS s)) ∧ Fr (fun _ => False) w w' := by
  obtain ⟨-, c1, -⟩ := h.cells
  obtain ⟨w1, hrun, hra, hf1, hs1⟩ := h.names.range
  obtain ⟨rr, hrr⟩ : ∃ rr, w.heap.size = rr := ⟨_, rfl⟩
  rw [hrr] at hrun hra
  obtain ⟨m0, s0, sn0, c0, hit⟩ := hra.iter
  have hlt : usedS s ≤ 4194304 * 1000000 := by
    refine Nat.le_trans (sumF_le _ 4194304 s.names fun p hp => (h.bd p.2 (.inl ⟨p.1, hp⟩)).1) ?_
    have := h.cn
    exact Nat.mul_le_mul_left _ (by omega)
  have H := hid h; have HRA := hid hra; have HF1 := hid hf1; have HLT := hid hlt
  have hu : usedS s = sumF (fun k => (s.fs k).by_.length) s.names := rfl
  have HU := hid hu
  have HRR := hid hrr
  have HX := hid (show ∀ f, (∃ n, (n, f) ∈ s.names) → f < rr from fun f hf => by rw [← hrr]; exact (h.fl f (.inl hf)).lt)
  have HB := hid (show ∀ k, BB w1 k → k ≠ rr from fun k hk e => by
    obtain ⟨cs, fz, hc⟩ := hk
    rw [e, hit] at hc
    cases hc)
  clear h hra hf1 hlt hu hs1 hit hrr
  go_enter Tryz.func9, Tryz.ntmps9
  go_wp2_with fail
  go_loopw [3] (fun nv wr => ∃ (n : Nat) (L : Nm), nv = .int .i64 n ∧ n ≤ 4194304000000 ∧ Hid (RangeAt wr s.bn rr s.names L) ∧ Hid (n + sumF (fun k => (s.fs k).by_.length) L = usedS s) ∧ Hid (Fr (fun k => k = rr) w1 wr)) (fun nv wr => wr.rangeLeft s.bn rr)
  case atStart => exact ⟨0, s.names, rfl, by omega, HRA, hid (by rw [HU.out]; omega), hid (Fr.refl _ _)⟩
  case round =>
    obtain ⟨n, L, rfl, hn, HR, HN, HFr⟩ := hrel
    rcases HR.out.next 0 with ⟨hL, hrun⟩ | ⟨nm, f, w2, hfL, hfM, hrun, hra2, hf2, hs2, hen, hlt2⟩
    · subst hL
      have hn2 : n = usedS s := by have := HN.out; simpa [sumF] using this
      subst hn2
      go_wp2_with fail
      go_ret
      refine ⟨rfl, HF1.out.trans HFr.out (fun _ _ => id) fun q hq e => ?_⟩
      have := HRR.out; omega
    · have hrr := HR.out.lsub
      obtain ⟨a, c, f0, f1, f2, -⟩ := (((H.out.fr HF1.out).fl f (.inl ⟨nm, hfM⟩)).frame (HFr.out.trans' hf2) (fun e => by have := HX.out f ⟨nm, hfM⟩; omega) fun k hk e => by have := HB.out k hk; omega).cells
      have hsum := sumF_dl (fun k => (s.fs k).by_.length) hrr.2.1 hfL
      have hN := HN.out
      have hlt := HLT.out
      obtain ⟨q, hq⟩ : ∃ q, (s.fs f).by_.length = q := ⟨_, rfl⟩
      rw [hq] at f1
      rw [hq] at hsum
      have hw : IntKind.i64.wrap ((n : Int) + q) = (n : Int) + q := IntWalk.i64_in _ (by omega)
      have hb2 : n + q ≤ 4194304000000 := by omega
      have HR2 := hid hra2; have HN2 := hid (show n + q + sumF (fun k => (s.fs k).by_.length) (dl L nm) = usedS s by omega); have HF2 := hid (HFr.out.trans' hf2)
      clear f0 f2 hsum hN hlt hrr hfL hfM hra2 hf2 hs2 hq
      go_wp2_with fail
      go_roundw
      case rel => exact ⟨n + q, dl L nm, by go_num, hb2, HR2, HN2, HF2⟩
      case measure => exact hlt2
end Go.Proofs.YtlhbgobjhddhlaaGreatDoor
