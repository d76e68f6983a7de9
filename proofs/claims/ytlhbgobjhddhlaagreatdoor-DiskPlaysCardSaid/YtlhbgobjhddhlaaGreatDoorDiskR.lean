/- Package disk: plain disks whose power may go. -/
import Derived.Test.YtlhbgobjhddhlaaGreatDoorDiskRoomsP
namespace Go.Proofs.YtlhbgobjhddhlaaGreatDoor
open Go.RowKit
variable {w0 w w' : World} {s : DS} {pa : Nat → Addr} {nm : ByteArray} {X : Nat}

def PS.begE (p : PS) : Nat := if p.down then 110 else if p.armed = 1 then 110 else 0
def PS.beg (p : PS) : PS := if p.down then p else if 0 < p.armed then { p with armed := p.armed - 1, down := decide (p.armed = 1) } else p
theorem ps_beg (s : DS) : ps (beginS s) = (ps s).beg := by
  unfold beginS PS.beg ps
  dsimp only
  split
  · rfl
  · split <;> rfl
theorem ps_begE (s : DS) : beginE s = (ps s).begE := rfl
theorem PS.begE_no (p : PS) : p.begE = 0 ∨ p.begE = 110 := by
  unfold PS.begE
  split
  · exact .inr rfl
  · split
    · exact .inr rfl
    · exact .inl rfl
theorem append_g {p : PS} (h : PW w0 w X p) (hS : S6 w0.heap.size w0 pa) {k : Nat} (hl : lk p.names nm = some k) (v : Value) (m : List UInt8) (D : Nat → Prop) (hv : Bs D w v m) (hD : ∀ k, D k → ¬ Tk w k ∨ k < w0.heap.size) (hm : (p.used : Int) + m.length ≤ p.room) (hb : p.calls ≤ 1000000) :
    Calls Tryz.prog 12 #[.pointer (some ⟨X, 0, none⟩), .string nm, v] w fun e w' => e = .returned (errV pa p.begE) ∧ Fr (Tk w) w w' ∧ (p.begE ≠ 0 → PW w0 w' X p.beg) ∧ (p.begE = 0 → PW w0 w' X (p.beg.put k ⟨(p.fs k).id, (p.fs k).by_ ++ m, (p.fs k).sy⟩)) := by
  have hrm := h.ok.rm
  obtain ⟨s, h, rfl, rfl⟩ := h
  refine (append_l rfl hS h nm (by have := h.d.sz.1 _ ((lk_mem h.d.names.2).1 hl); dsimp only at this; omega) v m D hv (h.nd hD) (by omega) hb).mono ?_
  rintro e w2 ⟨rfl, h1, h2⟩
  have hA : appE s nm m = (ps s).begE := by
    have hfull : ¬ (s.room - (usedS s : Int) < m.length) := by have : (usedS s : Int) + m.length ≤ s.room := hm; omega
    have hF : findE s nm = (ps s).begE := by
      unfold findE
      rw [show lk s.names nm = some k from hl, ps_begE]
      rcases (ps s).begE_no with e | e <;> rw [e] <;> rfl
    unfold appE
    rw [hF, if_neg hfull]
    rcases (ps s).begE_no with e | e <;> rw [e] <;> rfl
  rw [hA] at h1 h2 ⊢
  rcases (ps s).begE_no with e | e
  · obtain ⟨k', hk', h3, h4⟩ := h2 e
    obtain rfl := Option.some.inj ((show lk s.names nm = some k from hl).symm.trans hk')
    refine ⟨rfl, h.tk h4, fun hn => absurd e hn, fun _ => ⟨_, h3, (beginS_same s).1, ?_⟩⟩
    rw [← ps_beg]
    rfl
  · obtain ⟨h3, h4⟩ := h1 (by rw [e]; decide)
    exact ⟨rfl, h.tk h4, fun _ => ⟨_, h3, (beginS_same s).1, ps_beg s⟩, fun h0 => by rw [e] at h0; cases h0⟩
theorem syncdir_g {p : PS} (h : PW w0 w X p) (hS : S6 w0.heap.size w0 pa) (hb : p.calls ≤ 1000000) :
    Calls Tryz.prog 22 #[.pointer (some ⟨X, 0, none⟩)] w fun e w' => e = .returned (errV pa p.begE) ∧ Fr (Tk w) w w' ∧ (p.begE ≠ 0 → PW w0 w' X p.beg) ∧ (p.begE = 0 → PW w0 w' X p.beg.syncDir) := by
  obtain ⟨s, h, rfl, rfl⟩ := h
  refine (syncdir_l rfl hS h hb).mono ?_
  rintro e w2 ⟨rfl, h1, h2⟩
  rw [ps_begE] at h1 h2 ⊢
  rcases (ps s).begE_no with e | e
  · obtain ⟨bk, -, h3, h4⟩ := h2 e
    exact ⟨rfl, h.tk h4, fun hn => absurd e hn, fun _ => ⟨_, h3, (beginS_same s).1, by rw [← ps_beg]; rfl⟩⟩
  · obtain ⟨h3, h4⟩ := h1 (by rw [e]; decide)
    exact ⟨rfl, h.tk h4, fun _ => ⟨_, h3, (beginS_same s).1, ps_beg s⟩, fun h0 => by rw [e] at h0; cases h0⟩
/-- While the power is gone. -/
theorem down_b {s : DS} (h : s.down = true) : beginE s = 110 ∧ beginS s = s := by
  unfold beginE beginS
  rw [h]
  exact ⟨rfl, rfl⟩
theorem down_find {s : DS} (h : s.down = true) (nm : ByteArray) : findE s nm = 110 := by
  unfold findE
  rw [(down_b h).1]
  rfl
theorem down_file {s : DS} (h : s.down = true) (nm : ByteArray) : fileE s nm = 110 ∧ fileP s nm = none := by
  unfold fileE fileP
  rw [h]
  exact ⟨rfl, rfl⟩
theorem create_d {p : PS} (h : PW w0 w X p) (hS : S6 w0.heap.size w0 pa) (hd : p.down = true) (nm : ByteArray) (hn : nm.size ≤ 1048576) (hb : p.calls ≤ 1000000 ∧ p.files ≤ 1000000) :
    Calls Tryz.prog 10 #[.pointer (some ⟨X, 0, none⟩), .string nm] w fun e w' => e = .returned (errV pa 110) ∧ PW w0 w' X p ∧ Fr (Tk w) w w' := by
  obtain ⟨s, h, rfl, rfl⟩ := h
  refine (create_l rfl hS h nm hn hb).mono ?_
  rintro e w2 ⟨rfl, h1, -⟩
  have hE : createE s nm = 110 := by unfold createE; rw [(down_b hd).1]; rfl
  rw [hE] at h1 ⊢
  obtain ⟨h3, h4⟩ := h1 (by decide)
  rw [(down_b hd).2] at h3
  exact ⟨rfl, ⟨_, h3, rfl, rfl⟩, h.tk h4⟩
theorem append_d {p : PS} (h : PW w0 w X p) (hS : S6 w0.heap.size w0 pa) (hd : p.down = true) (nm : ByteArray) (hn : nm.size ≤ 1048576) (v : Value) (m : List UInt8) (D : Nat → Prop) (hv : Bs D w v m) (hD : ∀ k, D k → ¬ Tk w k ∨ k < w0.heap.size) (hm : m.length ≤ 1073741824) (hb : p.calls ≤ 1000000) :
    Calls Tryz.prog 12 #[.pointer (some ⟨X, 0, none⟩), .string nm, v] w fun e w' => e = .returned (errV pa 110) ∧ PW w0 w' X p ∧ Fr (Tk w) w w' := by
  obtain ⟨s, h, rfl, rfl⟩ := h
  refine (append_l rfl hS h nm hn v m D hv (h.nd hD) hm hb).mono ?_
  rintro e w2 ⟨rfl, h1, -⟩
  have hE : appE s nm m = 110 := by unfold appE; rw [down_find hd nm]; rfl
  rw [hE] at h1 ⊢
  obtain ⟨h3, h4⟩ := h1 (by decide)
  rw [(down_b hd).2] at h3
  exact ⟨rfl, ⟨_, h3, rfl, rfl⟩, h.tk h4⟩
theorem cut_d {p : PS} (h : PW w0 w X p) (hS : S6 w0.heap.size w0 pa) (hd : p.down = true) (nm : ByteArray) (hn : nm.size ≤ 1048576) (n : Int) (hnn : -9223372036854775808 ≤ n ∧ n ≤ 9223372036854775807) (hb : p.calls ≤ 1000000) :
    Calls Tryz.prog 14 #[.pointer (some ⟨X, 0, none⟩), .string nm, .int .i64 n] w fun e w' => e = .returned (errV pa 110) ∧ PW w0 w' X p ∧ Fr (Tk w) w w' := by
  obtain ⟨s, h, rfl, rfl⟩ := h
  refine (cut_l rfl hS h nm hn n hnn hb).mono ?_
  rintro e w2 ⟨rfl, h1, -⟩
  have hE : cutE s nm n = 110 := by unfold cutE; rw [down_find hd nm]; rfl
  rw [hE] at h1 ⊢
  obtain ⟨h3, h4⟩ := h1 (by decide)
  rw [(down_b hd).2] at h3
  exact ⟨rfl, ⟨_, h3, rfl, rfl⟩, h.tk h4⟩
theorem sync_d {p : PS} (h : PW w0 w X p) (hS : S6 w0.heap.size w0 pa) (hd : p.down = true) (nm : ByteArray) (hn : nm.size ≤ 1048576) (hb : p.calls ≤ 1000000) :
    Calls Tryz.prog 16 #[.pointer (some ⟨X, 0, none⟩), .string nm] w fun e w' => e = .returned (errV pa 110) ∧ PW w0 w' X p ∧ Fr (Tk w) w w' := by
  obtain ⟨s, h, rfl, rfl⟩ := h
  refine (sync_l rfl hS h nm hn hb).mono ?_
  rintro e w2 ⟨rfl, h1, -⟩
  rw [down_find hd nm] at h1 ⊢
  obtain ⟨h3, h4⟩ := h1 (by decide)
  rw [(down_b hd).2] at h3
  exact ⟨rfl, ⟨_, h3, rfl, rfl⟩, h.tk h4⟩
theorem rename_d {p : PS} (h : PW w0 w X p) (hS : S6 w0.heap.size w0 pa) (hd : p.down = true) (nm nt : ByteArray) (hn : nm.size ≤ 1048576) (ht : nt.size ≤ 1048576) (hb : p.calls ≤ 1000000) :
    Calls Tryz.prog 18 #[.pointer (some ⟨X, 0, none⟩), .string nm, .string nt] w fun e w' => e = .returned (errV pa 110) ∧ PW w0 w' X p ∧ Fr (Tk w) w w' := by
  obtain ⟨s, h, rfl, rfl⟩ := h
  refine (rename_l rfl hS h nm nt hn ht hb).mono ?_
  rintro e w2 ⟨rfl, h1, -⟩
  have hE : renE s nm nt = 110 := by unfold renE; rw [down_find hd nm]; rfl
  rw [hE] at h1 ⊢
  obtain ⟨h3, h4⟩ := h1 (by decide)
  rw [(down_b hd).2] at h3
  exact ⟨rfl, ⟨_, h3, rfl, rfl⟩, h.tk h4⟩
theorem remove_d {p : PS} (h : PW w0 w X p) (hS : S6 w0.heap.size w0 pa) (hd : p.down = true) (nm : ByteArray) (hn : nm.size ≤ 1048576) (hb : p.calls ≤ 1000000) :
    Calls Tryz.prog 20 #[.pointer (some ⟨X, 0, none⟩), .string nm] w fun e w' => e = .returned (errV pa 110) ∧ PW w0 w' X p ∧ Fr (Tk w) w w' := by
  obtain ⟨s, h, rfl, rfl⟩ := h
  refine (remove_l rfl hS h nm hn hb).mono ?_
  rintro e w2 ⟨rfl, h1, -⟩
  rw [down_find hd nm] at h1 ⊢
  obtain ⟨h3, h4⟩ := h1 (by decide)
  rw [(down_b hd).2] at h3
  exact ⟨rfl, ⟨_, h3, rfl, rfl⟩, h.tk h4⟩
theorem read_d {p : PS} (h : PW w0 w X p) (hS : S6 w0.heap.size w0 pa) (hd : p.down = true) (nm : ByteArray) (hn : nm.size ≤ 1048576) (o n : Int) (ho : -9223372036854775808 ≤ o ∧ o ≤ 9223372036854775807) (hnn : -9223372036854775808 ≤ n ∧ n ≤ 9223372036854775807) :
    Calls Tryz.prog 28 #[.pointer (some ⟨X, 0, none⟩), .string nm, .int .i64 o, .int .i64 n] w fun e w' => Fr (fun _ => False) w w' ∧ ∃ v, e = .returned (.tuple #[v, errV pa 110]) := by
  obtain ⟨s, h, rfl, rfl⟩ := h
  refine (read_any pa (h.s6 hS) h.d nm (by unfold maxLen; omega) o n ho hnn).mono ?_
  rintro e w2 ⟨hf, v, rfl, -⟩
  have hE : readE s nm o n = 110 := by unfold readE; rw [(down_file hd nm).1]; rfl
  rw [hE]
  exact ⟨hf, v, rfl⟩
/-- A reading asks for power alone. -/
theorem up_file {s : DS} {k : Nat} (h : s.down = false) (hl : lk s.names nm = some k) : fileE s nm = 0 ∧ fileP s nm = some k := by
  unfold fileE fileP
  rw [h, hl]
  exact ⟨rfl, rfl⟩
theorem read_u {p : PS} (h : PW w0 w X p) (hS : S6 w0.heap.size w0 pa) (hc : p.down = false) {k : Nat} (hl : lk p.names nm = some k) (o n : Nat) (hn : o + n ≤ (p.fs k).by_.length) :
    Calls Tryz.prog 28 #[.pointer (some ⟨X, 0, none⟩), .string nm, .int .i64 o, .int .i64 n] w fun e w' => Fr (fun _ => False) w w' ∧ ∃ v, e = .returned (.tuple #[v, .nilIface]) ∧ OB w.heap.size w' v (((p.fs k).by_.take (o + n)).drop o) := by
  obtain ⟨s, h, rfl, rfl⟩ := h
  have hm := (lk_mem h.d.names.2).1 hl
  have hbd := h.d.bd k (.inl ⟨nm, hm⟩)
  refine (read_any pa (h.s6 hS) h.d nm (by have := h.d.sz.1 _ hm; dsimp only at this; unfold maxLen; omega) (o : Int) (n : Int) (by have : o + n ≤ (s.fs k).by_.length := hn; omega) (by have : o + n ≤ (s.fs k).by_.length := hn; omega)).mono fun _ _ ⟨hf, v, e, h2, _⟩ => ⟨hf, v, ?_⟩
  have hL : lenS s nm = (s.fs k).by_.length := by unfold lenS; rw [(up_file hc hl).2]
  have hE : readE s nm o n = 0 := by unfold readE; rw [if_neg (by simp [(up_file hc hl).1]), hL, if_neg (by have : o + n ≤ (s.fs k).by_.length := hn; omega)]
  rw [hE] at e h2
  have hB : readB s nm o n = ((s.fs k).by_.take (o + n)).drop o := by
    unfold readB
    rw [(up_file hc hl).2]
    dsimp only
    rw [Int.toNat_natCast, show ((o : Int) + n).toNat = o + n by omega]
  rw [hB] at h2
  exact ⟨e, h2 rfl⟩
theorem len_d {p : PS} (h : PW w0 w X p) (hS : S6 w0.heap.size w0 pa) (hd : p.down = true) (nm : ByteArray) (hn : nm.size ≤ 1048576) :
    Calls Tryz.prog 32 #[.pointer (some ⟨X, 0, none⟩), .string nm] w fun e w' => e = .returned (.tuple #[.int .i64 0, errV pa 110]) ∧ Fr (fun _ => False) w w' := by
  obtain ⟨s, h, rfl, rfl⟩ := h
  refine (len_any pa (h.s6 hS) h.d nm (by unfold maxLen; omega)).mono ?_
  rintro e w2 ⟨rfl, hf⟩
  have hL : lenS s nm = 0 := by unfold lenS; rw [(down_file hd nm).2]
  rw [(down_file hd nm).1, hL]
  exact ⟨rfl, hf⟩
theorem synced_d {p : PS} (h : PW w0 w X p) (hS : S6 w0.heap.size w0 pa) (hd : p.down = true) (nm : ByteArray) (hn : nm.size ≤ 1048576) :
    Calls Tryz.prog 59 #[.pointer (some ⟨X, 0, none⟩), .string nm] w fun e w' => e = .returned (.tuple #[.int .i64 0, errV pa 110]) ∧ Fr (fun _ => False) w w' := by
  obtain ⟨s, h, rfl, rfl⟩ := h
  refine (synced_any pa (h.s6 hS) h.d nm (by unfold maxLen; omega)).mono ?_
  rintro e w2 ⟨rfl, hf⟩
  have hL : synS s nm = 0 := by unfold synS; rw [(down_file hd nm).2]
  rw [(down_file hd nm).1, hL]
  exact ⟨rfl, hf⟩
theorem order_one {G : List Nat} {F : Nat} (hn : G.Nodup) (hm : ∀ k, k ∈ G ↔ k = F) : G = [F] := by
  cases G with
  | nil => exact absurd ((hm F).2 rfl) (by simp)
  | cons a r =>
    have ha : a = F := (hm a).1 (by simp)
    cases r with
    | nil => rw [ha]
    | cons b t =>
      have hb : b = F := (hm b).1 (by simp)
      rw [List.nodup_cons] at hn
      exact absurd (by rw [ha, hb]; simp) hn.1
theorem pt_nil_mem {nm : ByteArray} {F : Nat} {q : ByteArray × Nat} : q ∈ pt [] nm F ↔ q = (nm, F) := by simp [pt, dl]
theorem used_one {p : PS} {F : Nat} (h : p.names = pt [] nm F) : p.used = (p.fs F).by_.length := by
  unfold PS.used
  rw [h]
  simp [pt, dl, sumF]
/-- A row of ints made anew. -/
theorem Is.row {w : World} {g : Nat} {l : List Int} {fz : Nat × Nat} {t : TypeId} (h : w.heap[g]? = some (.cells (l.map fun n => Value.int .i64 n).toArray t fz)) (hl : l.length ≤ maxLen) : Is (fun k => k = g) w (.slice (some ⟨g, 0, none⟩) l.length l.length) l := by
  refine ⟨_, _, rfl, Nat.le_refl _, hl, fun k hk => ⟨g, 0, _, rfl, rfl, ?_, rfl⟩⟩
  rw [Nat.zero_add, cell_of_row _ _ _ _ _ _ h]
  simp [List.getD, hk]
end Go.Proofs.YtlhbgobjhddhlaaGreatDoor
