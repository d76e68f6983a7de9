/- Package disk: the calls as the statements make them. -/
import Derived.Test.YtlhbgobjhddhlaaGreatDoorDiskO
namespace Go.Proofs.YtlhbgobjhddhlaaGreatDoor
open Go.RowKit
variable {base : Nat} {w0 w w' : World} {s : DS} {pa : Nat → Addr} {nm : ByteArray}

/-- A disk made since w0; what was there then is as it was. -/
structure LW (w0 w : World) (s : DS) : Prop where
  d : DAt w0.heap.size w s
  f : Fr (fun _ => False) w0 w
theorem LW.fr (h : LW w0 w s) (hf : Fr (fun _ => False) w w') : LW w0 w' s := ⟨h.d.fr hf, h.f.trans' hf⟩
theorem LW.to {s' : DS} {S : Nat → Prop} (h : LW w0 w s) (hd : DAt w0.heap.size w' s') (hf : Fr S w w') (hS : ∀ k, S k → DSet s k) : LW w0 w' s' ∧ Fr (DSet s) w w' :=
  ⟨⟨hd, h.f.trans (U := fun _ => False) hf (fun _ _ h => h) fun k hk e => by have := h.d.lo k (hS k e); omega⟩, hf.mono fun k _ e => hS k e⟩
theorem LW.s6 (h : LW w0 w s) (hS : S6 w0.heap.size w0 pa) : S6 w0.heap.size w pa := hS.fr h.f
theorem LW.le (h : LW w0 w s) : w0.heap.size ≤ w.heap.size := h.f.size
theorem cset_dset {k : Nat} (h : CSet s k) : DSet s k := by
  rcases h with e | e | e
  · exact .inl e
  · exact .inr (.inl e)
  · exact .inr (.inr (.inr (.inl e)))
theorem x_dset {k : Nat} (h : k = s.X) : DSet s k := .inl h
theorem fx_dset {k q : Nat} (hk : lk s.names nm = some q) (hK : Ks s.names) (h : k = q ∨ k = s.X) : DSet s k := by
  rcases h with e | e
  · exact .inr (.inr (.inr (.inr (.inl ⟨nm, e ▸ (lk_mem hK).1 hk⟩))))
  · exact .inl e
theorem Sent17.s6 (h : Sent17 w0 pa) : S6 w0.heap.size w0 pa := fun i hi => by
  have hi17 : i < 17 := by
    revert hi
    simp only [List.mem_cons, List.not_mem_nil, or_false]
    omega
  exact ⟨h.s i hi17, World.block_lt_of_cell? w0 _ (h.s i hi17)⟩
/-- Every call on a disk is as quiet as this. -/
theorem new_l (hS : S6 w0.heap.size w0 pa) (hf : Fr (fun _ => False) w0 w) (room : Int) :
    Calls Tryz.prog 5 #[.int .i64 room] w fun e w' => (newOk room = false → e = .returned (.tuple #[.pointer none, errV pa 105]) ∧ Fr (fun _ => False) w w') ∧
      (newOk room = true → e = .returned (.tuple #[.pointer (some ⟨w.heap.size + 2, 0, none⟩), .nilIface]) ∧ LW w0 w' (newS w.heap.size room) ∧ Fr (fun _ => False) w w') :=
  (new_any pa (hS.fr hf) hf.size room).mono fun _ _ h => ⟨h.1, fun e => ⟨(h.2 e).1, ⟨(h.2 e).2.1, hf.trans' (h.2 e).2.2⟩, (h.2 e).2.2⟩⟩
theorem create_l {X : Nat} (hX : s.X = X) (hS : S6 w0.heap.size w0 pa) (h : LW w0 w s) (nm : ByteArray) (hn : nm.size ≤ 1048576) (hc : s.calls ≤ 1000000 ∧ s.files ≤ 1000000) :
    Calls Tryz.prog 10 #[.pointer (some ⟨X, 0, none⟩), .string nm] w fun e w' => e = .returned (errV pa (createE s nm)) ∧
      (createE s nm ≠ 0 → LW w0 w' (beginS s) ∧ Fr (DSet s) w w') ∧ (createE s nm = 0 → ∃ f cv, w.heap.size ≤ f ∧ LW w0 w' (createS s nm f cv) ∧ Fr (DSet s) w w') := by
  subst hX
  exact
    (create_any pa (h.s6 hS) h.d nm hn hc h.le).mono fun _ _ ⟨e, h1, h2⟩ => ⟨e, fun hne => h.to (h1 hne).1 (h1 hne).2 fun _ => x_dset, fun h0 => by
      obtain ⟨f, cv, hf, -, hd, hF⟩ := h2 h0
      exact ⟨f, cv, hf, h.to hd hF fun _ => cset_dset⟩⟩
theorem append_l {X : Nat} (hX : s.X = X) (hS : S6 w0.heap.size w0 pa) (h : LW w0 w s) (nm : ByteArray) (hn : nm.size ≤ 1048576) (v : Value) (m : List UInt8) (D : Nat → Prop) (hv : Bs D w v m) (hD : ∀ k, D k → ¬ DSet s k) (hm : m.length ≤ 1073741824) (hc : s.calls ≤ 1000000) :
    Calls Tryz.prog 12 #[.pointer (some ⟨X, 0, none⟩), .string nm, v] w fun e w' => e = .returned (errV pa (appE s nm m)) ∧
      (appE s nm m ≠ 0 → LW w0 w' (beginS s) ∧ Fr (DSet s) w w') ∧
      (appE s nm m = 0 → ∃ k, lk s.names nm = some k ∧ LW w0 w' (fsUp (beginS s) k ⟨(s.fs k).id, (s.fs k).by_ ++ m, (s.fs k).sy⟩) ∧ Fr (DSet s) w w') := by
  subst hX
  exact
    (append_any pa (h.s6 hS) h.d nm hn v m D hv (fun k hk e => hD k hk (.inl e)) hm hc).mono fun _ _ ⟨e, h1, h2⟩ => ⟨e, fun hne => h.to (h1 hne).1 (h1 hne).2 fun _ => x_dset, fun h0 => by
      obtain ⟨k, hk, hd, hF⟩ := h2 h0
      exact ⟨k, hk, h.to hd hF fun _ => fx_dset hk h.d.names.2⟩⟩
theorem sync_l {X : Nat} (hX : s.X = X) (hS : S6 w0.heap.size w0 pa) (h : LW w0 w s) (nm : ByteArray) (hn : nm.size ≤ 1048576) (hc : s.calls ≤ 1000000) :
    Calls Tryz.prog 16 #[.pointer (some ⟨X, 0, none⟩), .string nm] w fun e w' => e = .returned (errV pa (findE s nm)) ∧
      (findE s nm ≠ 0 → LW w0 w' (beginS s) ∧ Fr (DSet s) w w') ∧
      (findE s nm = 0 → ∃ k, lk s.names nm = some k ∧ LW w0 w' (fsUp (beginS s) k ⟨(s.fs k).id, (s.fs k).by_, (s.fs k).by_.length⟩) ∧ Fr (DSet s) w w') := by
  subst hX
  exact
    (sync_any pa (h.s6 hS) h.d nm hn hc).mono fun _ _ ⟨e, h1, h2⟩ => ⟨e, fun hne => h.to (h1 hne).1 (h1 hne).2 fun _ => x_dset, fun h0 => by
      obtain ⟨k, hk, hd, hF⟩ := h2 h0
      exact ⟨k, hk, h.to hd hF fun _ => fx_dset hk h.d.names.2⟩⟩
theorem cut_l {X : Nat} (hX : s.X = X) (hS : S6 w0.heap.size w0 pa) (h : LW w0 w s) (nm : ByteArray) (hn : nm.size ≤ 1048576) (n : Int) (hnn : -9223372036854775808 ≤ n ∧ n ≤ 9223372036854775807) (hc : s.calls ≤ 1000000) :
    Calls Tryz.prog 14 #[.pointer (some ⟨X, 0, none⟩), .string nm, .int .i64 n] w fun e w' => e = .returned (errV pa (cutE s nm n)) ∧
      (cutE s nm n ≠ 0 → LW w0 w' (beginS s) ∧ Fr (DSet s) w w') ∧
      (cutE s nm n = 0 → ∃ k, lk s.names nm = some k ∧ LW w0 w' (fsUp (beginS s) k ⟨(s.fs k).id, (s.fs k).by_.take n.toNat, n.toNat⟩) ∧ Fr (DSet s) w w') := by
  subst hX
  exact
    (cut_any pa (h.s6 hS) h.d nm hn n hnn hc).mono fun _ _ ⟨e, h1, h2⟩ => ⟨e, fun hne => h.to (h1 hne).1 (h1 hne).2 fun _ => x_dset, fun h0 => by
      obtain ⟨k, hk, hd, hF⟩ := h2 h0
      exact ⟨k, hk, h.to hd hF fun _ => fx_dset hk h.d.names.2⟩⟩
theorem rename_l {X : Nat} (hX : s.X = X) (hS : S6 w0.heap.size w0 pa) (h : LW w0 w s) (nm nt : ByteArray) (hn : nm.size ≤ 1048576) (ht : nt.size ≤ 1048576) (hc : s.calls ≤ 1000000) :
    Calls Tryz.prog 18 #[.pointer (some ⟨X, 0, none⟩), .string nm, .string nt] w fun e w' => e = .returned (errV pa (renE s nm nt)) ∧
      (renE s nm nt ≠ 0 → LW w0 w' (beginS s) ∧ Fr (DSet s) w w') ∧
      (renE s nm nt = 0 → ∃ k cv, lk s.names nm = some k ∧ LW w0 w' (changeS (beginS s) (renC nm nt k) cv) ∧ Fr (DSet s) w w') := by
  subst hX
  exact
    (rename_any pa (h.s6 hS) h.d nm nt hn ht hc h.le).mono fun _ _ ⟨e, h1, h2⟩ => ⟨e, fun hne => h.to (h1 hne).1 (h1 hne).2 fun _ => x_dset, fun h0 => by
      obtain ⟨k, cv, hk, -, hd, hF⟩ := h2 h0
      exact ⟨k, cv, hk, h.to hd hF fun _ => cset_dset⟩⟩
theorem remove_l {X : Nat} (hX : s.X = X) (hS : S6 w0.heap.size w0 pa) (h : LW w0 w s) (nm : ByteArray) (hn : nm.size ≤ 1048576) (hc : s.calls ≤ 1000000) :
    Calls Tryz.prog 20 #[.pointer (some ⟨X, 0, none⟩), .string nm] w fun e w' => e = .returned (errV pa (findE s nm)) ∧
      (findE s nm ≠ 0 → LW w0 w' (beginS s) ∧ Fr (DSet s) w w') ∧ (findE s nm = 0 → ∃ cv, LW w0 w' (changeS (beginS s) ⟨⟨#[]⟩, nm, none⟩ cv) ∧ Fr (DSet s) w w') := by
  subst hX
  exact
    (remove_any pa (h.s6 hS) h.d nm hn hc h.le).mono fun _ _ ⟨e, h1, h2⟩ => ⟨e, fun hne => h.to (h1 hne).1 (h1 hne).2 fun _ => x_dset, fun h0 => by
      obtain ⟨cv, -, hd, hF⟩ := h2 h0
      exact ⟨cv, h.to hd hF fun _ => cset_dset⟩⟩
theorem syncdir_l {X : Nat} (hX : s.X = X) (hS : S6 w0.heap.size w0 pa) (h : LW w0 w s) (hc : s.calls ≤ 1000000) :
    Calls Tryz.prog 22 #[.pointer (some ⟨X, 0, none⟩)] w fun e w' => e = .returned (errV pa (beginE s)) ∧
      (beginE s ≠ 0 → LW w0 w' (beginS s) ∧ Fr (DSet s) w w') ∧
      (beginE s = 0 → ∃ bk, w.heap.size ≤ bk ∧ LW w0 w' (syncS (beginS s) bk) ∧ Fr (DSet s) w w') := by
  subst hX
  exact
    (syncdir_any pa (h.s6 hS) h.d hc h.le).mono fun _ _ ⟨e, h1, h2⟩ => ⟨e, fun hne => h.to (h1 hne).1 (h1 hne).2 fun _ => x_dset, fun h0 => by
      obtain ⟨bk, hb, hd, hF⟩ := h2 h0
      exact ⟨bk, hb, h.to hd hF fun _ => x_dset⟩⟩
theorem arm_l {X : Nat} (hX : s.X = X) (h : LW w0 w s) (n : Int) (hn : n ≤ 9223372036854775807) :
    Calls Tryz.prog 24 #[.pointer (some ⟨X, 0, none⟩), .int .i64 n] w fun e w' => e = .returned (.tuple #[]) ∧ LW w0 w' (armS s n) ∧ Fr (DSet s) w w' := by
  subst hX
  exact
    (arm_any h.d n hn).mono fun _ _ ⟨e, h1, h2⟩ => ⟨e, h.to h1 h2 fun _ => x_dset⟩
theorem crash_l {X : Nat} (hX : s.X = X) (h : LW w0 w s) (hc : s.calls ≤ 1000000) (D : Nat → Prop) (pv : Value) (picks : List Int) (hp : Is D w pv picks) (hD : ∀ k, D k → ¬ DSet s k) (hr : ∀ k, -9223372036854775808 ≤ picks.getD k 0 ∧ picks.getD k 0 ≤ 9223372036854775807) (hl : picks.length ≤ 1000000) :
    Calls Tryz.prog 26 #[.pointer (some ⟨X, 0, none⟩), pv] w fun e w' => e = .returned (.tuple #[]) ∧ ∃ G bn, w.heap.size ≤ bn ∧ CrashG s picks G ∧ LW w0 w' (crashS s picks G bn) ∧ Fr (DSet s) w w' := by
  subst hX
  exact
    (crash_any h.d h.le hc D pv picks hp hD hr hl).mono fun _ _ ⟨e, G, bn, hb, hG, hd, hF⟩ => ⟨e, G, bn, hb, hG, h.to hd hF fun _ h => h⟩
theorem crash0_l {X : Nat} (hX : s.X = X) (h : LW w0 w s) (hc : s.calls ≤ 1000000) :
    Calls Tryz.prog 26 #[.pointer (some ⟨X, 0, none⟩), .slice none 0 0] w fun e w' => e = .returned (.tuple #[]) ∧ ∃ G bn, w.heap.size ≤ bn ∧ CrashG s [] G ∧ LW w0 w' (crashS s [] G bn) ∧ Fr (DSet s) w w' := by
  subst hX
  exact
    crash_l rfl h hc (fun _ => False) _ [] ⟨none, 0, rfl, Nat.le_refl _, Nat.zero_le _, fun k hk => by simp at hk⟩ (fun _ h => h.elim) (fun k => by simp) (by simp)
theorem pick_nil (k n : Nat) : pick [] k n = 0 := by
  by_cases h : ([] : List Int).length ≤ k
  · unfold pick; rw [if_pos h]
  · exact absurd (Nat.zero_le k) h
/-- No power is gone, and none will go. -/
def calm (s : DS) : Prop := s.down = false ∧ s.armed = 0
theorem calm.e (h : calm s) : beginE s = 0 := by unfold beginE; rw [if_neg (by simp [h.1]), if_neg (by rw [h.2]; decide)]
theorem calm.b (h : calm s) : beginS s = s := by unfold beginS; rw [if_neg (by simp [h.1]), if_neg (by rw [h.2]; decide)]
theorem calm.find {k : Nat} (h : calm s) (hl : lk s.names nm = some k) : findE s nm = 0 := by unfold findE; rw [if_pos h.e, hl]; rfl
theorem calm.find0 (h : calm s) (hl : lk s.names nm = none) : findE s nm = 107 := by unfold findE; rw [if_pos h.e, hl]; rfl
theorem calm.file {k : Nat} (h : calm s) (hl : lk s.names nm = some k) : fileE s nm = 0 ∧ fileP s nm = some k := by
  unfold fileE fileP
  rw [h.1, hl]
  exact ⟨rfl, rfl⟩
theorem calm.file0 (h : calm s) (hl : lk s.names nm = none) : fileE s nm = 107 ∧ fileP s nm = none := by
  unfold fileE fileP
  rw [h.1, hl]
  exact ⟨rfl, rfl⟩
def createC (s : DS) (nm : ByteArray) (f : Nat) (cv : Value) : DS :=
  { s with names := pt s.names nm f, ch := s.ch ++ [⟨nm, ⟨#[]⟩, some f⟩], files := s.files + 1, calls := s.calls + 1, cv := cv, fs := fun k => if k = f then ⟨s.files + 1, [], 0⟩ else s.fs k }
theorem calm.createS (h : calm s) (f : Nat) (cv : Value) : Go.Proofs.YtlhbgobjhddhlaaGreatDoor.createS s nm f cv = createC s nm f cv := by
  unfold Go.Proofs.YtlhbgobjhddhlaaGreatDoor.createS
  rw [h.b]
  unfold changeS addFile createC applyM
  simp
theorem calm.createE (h : calm s) (ho : okN nm = true) (hl : lk s.names nm = none) : Go.Proofs.YtlhbgobjhddhlaaGreatDoor.createE s nm = 0 := by
  unfold Go.Proofs.YtlhbgobjhddhlaaGreatDoor.createE
  rw [if_neg (by simp [h.e]), if_neg (by simp [ho]), if_neg (by simp [hl])]
theorem create_c {X : Nat} (hX : s.X = X) (hS : S6 w0.heap.size w0 pa) (h : LW w0 w s) (hc : calm s) (ho : okN nm = true) (hl : lk s.names nm = none) (hb : s.calls ≤ 1000000 ∧ s.files ≤ 1000000) :
    Calls Tryz.prog 10 #[.pointer (some ⟨X, 0, none⟩), .string nm] w fun e w' => e = .returned .nilIface ∧ ∃ f cv, w.heap.size ≤ f ∧ LW w0 w' (createC s nm f cv) ∧ Fr (DSet s) w w' := by
  subst hX
  exact
    (create_l rfl hS h nm (by have := okN_size ho; omega) hb).mono fun _ _ ⟨e, _, h2⟩ => by
      rw [hc.createE ho hl] at e h2
      obtain ⟨f, cv, hf, h3, h4⟩ := h2 rfl
      rw [hc.createS] at h3
      exact ⟨e, f, cv, hf, h3, h4⟩
theorem append_c {X : Nat} (hX : s.X = X) (hS : S6 w0.heap.size w0 pa) (h : LW w0 w s) (hc : calm s) {k : Nat} (hl : lk s.names nm = some k) (v : Value) (m : List UInt8) (D : Nat → Prop) (hv : Bs D w v m) (hD : ∀ k, D k → ¬ DSet s k) (hm : (usedS s : Int) + m.length ≤ s.room) (hb : s.calls ≤ 1000000) :
    Calls Tryz.prog 12 #[.pointer (some ⟨X, 0, none⟩), .string nm, v] w fun e w' => e = .returned .nilIface ∧ LW w0 w' (fsUp s k ⟨(s.fs k).id, (s.fs k).by_ ++ m, (s.fs k).sy⟩) ∧ Fr (DSet s) w w' := by
  subst hX
  exact
    (append_l rfl hS h nm (by have := h.d.sz.1 _ ((lk_mem h.d.names.2).1 hl); dsimp only at this; omega) v m D hv hD (by have := h.d.rm; omega) hb).mono fun _ _ ⟨e, _, h2⟩ => by
      have hE : appE s nm m = 0 := by unfold appE; rw [if_neg (by simp [hc.find hl]), if_neg (by omega)]
      rw [hE] at e h2
      obtain ⟨k', hk', h3, h4⟩ := h2 rfl
      rw [hl] at hk'
      obtain rfl := Option.some.inj hk'
      rw [hc.b] at h3
      exact ⟨e, h3, h4⟩
theorem appendfull_c {X : Nat} (hX : s.X = X) (hS : S6 w0.heap.size w0 pa) (h : LW w0 w s) (hc : calm s) {k : Nat} (hl : lk s.names nm = some k) (v : Value) (m : List UInt8) (D : Nat → Prop) (hv : Bs D w v m) (hD : ∀ k, D k → ¬ DSet s k) (hm : s.room < (usedS s : Int) + m.length) (hm2 : m.length ≤ 1073741824) (hb : s.calls ≤ 1000000) :
    Calls Tryz.prog 12 #[.pointer (some ⟨X, 0, none⟩), .string nm, v] w fun e w' => e = .returned (errV pa 109) ∧ LW w0 w' s ∧ Fr (DSet s) w w' := by
  subst hX
  exact
    (append_l rfl hS h nm (by have := h.d.sz.1 _ ((lk_mem h.d.names.2).1 hl); dsimp only at this; omega) v m D hv hD hm2 hb).mono fun _ _ ⟨e, h1, _⟩ => by
      have hE : appE s nm m = 109 := by unfold appE; rw [if_neg (by simp [hc.find hl]), if_pos (by omega)]
      rw [hE] at e h1
      have h3 := h1 (by decide)
      rw [hc.b] at h3
      exact ⟨e, h3⟩
theorem sync_c {X : Nat} (hX : s.X = X) (hS : S6 w0.heap.size w0 pa) (h : LW w0 w s) (hc : calm s) {k : Nat} (hl : lk s.names nm = some k) (hb : s.calls ≤ 1000000) :
    Calls Tryz.prog 16 #[.pointer (some ⟨X, 0, none⟩), .string nm] w fun e w' => e = .returned .nilIface ∧ LW w0 w' (fsUp s k ⟨(s.fs k).id, (s.fs k).by_, (s.fs k).by_.length⟩) ∧ Fr (DSet s) w w' := by
  subst hX
  exact
    (sync_l rfl hS h nm (by have := h.d.sz.1 _ ((lk_mem h.d.names.2).1 hl); dsimp only at this; omega) hb).mono fun _ _ ⟨e, _, h2⟩ => by
      rw [hc.find hl] at e h2
      obtain ⟨k', hk', h3, h4⟩ := h2 rfl
      rw [hl] at hk'
      obtain rfl := Option.some.inj hk'
      rw [hc.b] at h3
      exact ⟨e, h3, h4⟩
theorem cut_c {X : Nat} (hX : s.X = X) (hS : S6 w0.heap.size w0 pa) (h : LW w0 w s) (hc : calm s) {k : Nat} (hl : lk s.names nm = some k) (n : Nat) (hn : n ≤ (s.fs k).by_.length) (hb : s.calls ≤ 1000000) :
    Calls Tryz.prog 14 #[.pointer (some ⟨X, 0, none⟩), .string nm, .int .i64 n] w fun e w' => e = .returned .nilIface ∧ LW w0 w' (fsUp s k ⟨(s.fs k).id, (s.fs k).by_.take n, n⟩) ∧ Fr (DSet s) w w' := by
  subst hX
  have hm := (lk_mem h.d.names.2).1 hl
  have hbd := h.d.bd k (.inl ⟨nm, hm⟩)
  refine (cut_l rfl hS h nm (by have := h.d.sz.1 _ hm; dsimp only at this; omega) (n : Int) (by omega) hb).mono fun _ _ ⟨e, _, h2⟩ => ?_
  have hE : cutE s nm n = 0 := by unfold cutE lenN; rw [if_neg (by simp [hc.find hl]), hl, if_neg (by dsimp only; omega)]
  rw [hE] at e h2
  obtain ⟨k', hk', h3, h4⟩ := h2 rfl
  rw [hl] at hk'
  obtain rfl := Option.some.inj hk'
  rw [hc.b, Int.toNat_natCast] at h3
  exact ⟨e, h3, h4⟩
theorem syncdir_c {X : Nat} (hX : s.X = X) (hS : S6 w0.heap.size w0 pa) (h : LW w0 w s) (hc : calm s) (hb : s.calls ≤ 1000000) :
    Calls Tryz.prog 22 #[.pointer (some ⟨X, 0, none⟩)] w fun e w' => e = .returned .nilIface ∧ ∃ bk, w.heap.size ≤ bk ∧ LW w0 w' (syncS s bk) ∧ Fr (DSet s) w w' := by
  subst hX
  exact
    (syncdir_l rfl hS h hb).mono fun _ _ ⟨e, _, h2⟩ => by
      rw [hc.e] at e h2
      have h3 := h2 rfl
      rw [hc.b] at h3
      exact ⟨e, h3⟩
theorem remove_c {X : Nat} (hX : s.X = X) (hS : S6 w0.heap.size w0 pa) (h : LW w0 w s) (hc : calm s) {k : Nat} (hl : lk s.names nm = some k) (hb : s.calls ≤ 1000000) :
    Calls Tryz.prog 20 #[.pointer (some ⟨X, 0, none⟩), .string nm] w fun e w' => e = .returned .nilIface ∧ ∃ cv, LW w0 w' (changeS s ⟨⟨#[]⟩, nm, none⟩ cv) ∧ Fr (DSet s) w w' := by
  subst hX
  exact
    (remove_l rfl hS h nm (by have := h.d.sz.1 _ ((lk_mem h.d.names.2).1 hl); dsimp only at this; omega) hb).mono fun _ _ ⟨e, _, h2⟩ => by
      rw [hc.find hl] at e h2
      have h3 := h2 rfl
      rw [hc.b] at h3
      exact ⟨e, h3⟩
theorem rename_c {X : Nat} (hX : s.X = X) (hS : S6 w0.heap.size w0 pa) (h : LW w0 w s) (hc : calm s) {k : Nat} (hl : lk s.names nm = some k) (nt : ByteArray) (ho : okN nt = true) (hb : s.calls ≤ 1000000) :
    Calls Tryz.prog 18 #[.pointer (some ⟨X, 0, none⟩), .string nm, .string nt] w fun e w' => e = .returned .nilIface ∧ ∃ cv, LW w0 w' (changeS s (renC nm nt k) cv) ∧ Fr (DSet s) w w' := by
  subst hX
  exact
    (rename_l rfl hS h nm nt (by have := h.d.sz.1 _ ((lk_mem h.d.names.2).1 hl); dsimp only at this; omega) (by have := okN_size ho; omega) hb).mono fun _ _ ⟨e, _, h2⟩ => by
      have hE : renE s nm nt = 0 := by unfold renE; rw [if_neg (by simp [hc.find hl]), if_neg (by simp [ho])]
      rw [hE] at e h2
      obtain ⟨k', cv, hk', h3, h4⟩ := h2 rfl
      rw [hl] at hk'
      obtain rfl := Option.some.inj hk'
      rw [hc.b] at h3
      exact ⟨e, cv, h3, h4⟩
theorem len_c {X : Nat} (hX : s.X = X) (hS : S6 w0.heap.size w0 pa) (h : LW w0 w s) (hc : calm s) {k : Nat} (hl : lk s.names nm = some k) :
    Calls Tryz.prog 32 #[.pointer (some ⟨X, 0, none⟩), .string nm] w fun e w' => e = .returned (.tuple #[.int .i64 (s.fs k).by_.length, .nilIface]) ∧ Fr (fun _ => False) w w' := by
  subst hX
  exact
    (len_any pa (h.s6 hS) h.d nm (by have := h.d.sz.1 _ ((lk_mem h.d.names.2).1 hl); dsimp only at this; unfold maxLen; omega)).mono fun _ _ ⟨e, h2⟩ => by
      rw [(hc.file hl).1, show lenS s nm = (s.fs k).by_.length by unfold lenS; rw [(hc.file hl).2]] at e
      exact ⟨e, h2⟩
theorem synced_c {X : Nat} (hX : s.X = X) (hS : S6 w0.heap.size w0 pa) (h : LW w0 w s) (hc : calm s) {k : Nat} (hl : lk s.names nm = some k) :
    Calls Tryz.prog 59 #[.pointer (some ⟨X, 0, none⟩), .string nm] w fun e w' => e = .returned (.tuple #[.int .i64 (s.fs k).sy, .nilIface]) ∧ Fr (fun _ => False) w w' := by
  subst hX
  exact
    (synced_any pa (h.s6 hS) h.d nm (by have := h.d.sz.1 _ ((lk_mem h.d.names.2).1 hl); dsimp only at this; unfold maxLen; omega)).mono fun _ _ ⟨e, h2⟩ => by
      rw [(hc.file hl).1, show synS s nm = (s.fs k).sy by unfold synS; rw [(hc.file hl).2]] at e
      exact ⟨e, h2⟩
theorem len0_c {X : Nat} (hX : s.X = X) (hS : S6 w0.heap.size w0 pa) (h : LW w0 w s) (hc : calm s) (hn : nm.size ≤ 1048576) (hl : lk s.names nm = none) :
    Calls Tryz.prog 32 #[.pointer (some ⟨X, 0, none⟩), .string nm] w fun e w' => e = .returned (.tuple #[.int .i64 0, errV pa 107]) ∧ Fr (fun _ => False) w w' := by
  subst hX
  exact
    (len_any pa (h.s6 hS) h.d nm (by unfold maxLen; omega)).mono fun _ _ ⟨e, h2⟩ => by
      rw [(hc.file0 hl).1, show lenS s nm = 0 by unfold lenS; rw [(hc.file0 hl).2]] at e
      exact ⟨e, h2⟩
theorem read_c {X : Nat} (hX : s.X = X) (hS : S6 w0.heap.size w0 pa) (h : LW w0 w s) (hc : calm s) {k : Nat} (hl : lk s.names nm = some k) (o n : Nat) (hn : o + n ≤ (s.fs k).by_.length) :
    Calls Tryz.prog 28 #[.pointer (some ⟨X, 0, none⟩), .string nm, .int .i64 o, .int .i64 n] w fun e w' => Fr (fun _ => False) w w' ∧ ∃ v, e = .returned (.tuple #[v, .nilIface]) ∧ OB w.heap.size w' v (((s.fs k).by_.take (o + n)).drop o) := by
  subst hX
  have hm := (lk_mem h.d.names.2).1 hl
  have hbd := h.d.bd k (.inl ⟨nm, hm⟩)
  refine (read_any pa (h.s6 hS) h.d nm (by have := h.d.sz.1 _ hm; dsimp only at this; unfold maxLen; omega) (o : Int) (n : Int) (by omega) (by omega)).mono fun _ _ ⟨hf, v, e, h2, _⟩ => ⟨hf, v, ?_⟩
  have hL : lenS s nm = (s.fs k).by_.length := by unfold lenS; rw [(hc.file hl).2]
  have hE : readE s nm o n = 0 := by unfold readE; rw [if_neg (by simp [(hc.file hl).1]), hL, if_neg (by omega)]
  rw [hE] at e h2
  have hB : readB s nm o n = ((s.fs k).by_.take (o + n)).drop o := by
    unfold readB
    rw [(hc.file hl).2]
    dsimp only
    rw [Int.toNat_natCast, show ((o : Int) + n).toNat = o + n by omega]
  rw [hB] at h2
  exact ⟨e, h2 rfl⟩
theorem used_l {X : Nat} (hX : s.X = X) (h : LW w0 w s) (hc : s.calls ≤ 1000000) :
    Calls Tryz.prog 9 #[.pointer (some ⟨X, 0, none⟩)] w fun e w' => e = .returned (.int .i64 (usedS s)) ∧ Fr (fun _ => False) w w' := by
  subst hX
  exact used_any h.d hc
end Go.Proofs.YtlhbgobjhddhlaaGreatDoor
