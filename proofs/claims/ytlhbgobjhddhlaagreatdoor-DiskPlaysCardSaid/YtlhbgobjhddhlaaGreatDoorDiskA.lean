/- Package disk: what a disk is in memory; New, begin, file, find, valid, Used, Len, Synced, Down, Calls, Arm. -/
import Derived.Test.YtlhbgobjhddhlaaGreatDoorMapF
import Derived.Test.YtlhbgobjhddhlaaGreatDoorSee
import Derived.Test.YtlhbgobjhddhlaaGreatDoorRow
namespace Go.Proofs.YtlhbgobjhddhlaaGreatDoor
open Go.RowKit

structure FS where
  id : Nat
  by_ : List UInt8
  sy : Nat
structure Chg where
  nm : ByteArray
  gn : ByteArray
  fl : Option Nat
/-- A disk: its blocks, and what they hold. -/
structure DS where
  X : Nat
  bn : Nat
  bk : Nat
  cv : Value
  room : Int
  names : Nm
  kept : Nm
  ch : List Chg
  files : Nat
  armed : Nat
  down : Bool
  calls : Nat
  fs : Nat → FS
def chV (l : List Chg) : List Value := l.flatMap fun c => [.string c.nm, .string c.gn, pV c.fl]
theorem chV_length (l : List Chg) : (chV l).length = l.length * 3 := by
  unfold chV
  induction l with
  | nil => rfl
  | cons c r ih => rw [List.flatMap_cons, List.length_append, ih]; simp; omega
/-- The files that may still be asked for. -/
def Fl (s : DS) (k : Nat) : Prop := (∃ n, (n, k) ∈ s.names) ∨ (∃ n, (n, k) ∈ s.kept) ∨ ∃ c ∈ s.ch, c.fl = some k
def DSet (s : DS) (k : Nat) : Prop := k = s.X ∨ k = s.bn ∨ k = s.bk ∨ s.cv.ownBlock = some k ∨ Fl s k
/-- A block of bytes. -/
def BB (w : World) (k : Nat) : Prop := ∃ cs fz, w.heap[k]? = some (.cells cs 5 fz)
theorem BB.frame {S : Nat → Prop} {w w' : World} {k : Nat} (h : BB w k) (hf : Fr S w w') (hS : ¬ S k) : BB w' k := by
  obtain ⟨cs, fz, h⟩ := h
  exact ⟨cs, fz, hf.heap h hS⟩
def NV (v : Value) : Prop := v = .slice none 0 0 ∨ ∃ ad n c, v = .slice (some ad) n c
def FileAt (w : World) (k : Nat) (f : FS) : Prop := ∃ v, w.heap[k]? = some (.cells #[.int .i64 f.id, v, .int .i64 f.sy] 78 (0, 0)) ∧ Bs (BB w) w v f.by_ ∧ NV v
theorem FileAt.frame {S : Nat → Prop} {w w' : World} {k : Nat} {f : FS} (h : FileAt w k f) (hf : Fr S w w') (hk : ¬ S k) (hB : ∀ k, BB w k → ¬ S k) : FileAt w' k f := by
  obtain ⟨v, h1, h2, h3⟩ := h
  exact ⟨v, hf.heap h1 hk, (h2.frame hf hB).mono fun j _ hj => hj.frame hf (hB j hj), h3⟩
structure DAt (base : Nat) (w : World) (s : DS) : Prop where
  heap : w.heap[s.X]? = some (.cells #[.int .i64 s.room, .map (some s.bn), .map (some s.bk), s.cv, .int .i64 s.files, .int .i64 s.armed, .bool s.down, .int .i64 s.calls] 62 (0, 0))
  names : MapAt w s.bn s.names
  kept : MapAt w s.bk s.kept
  ne : s.bn ≠ s.bk
  ch : w.ownsRow base 82 3 s.cv s.ch.length (chV s.ch)
  fl : ∀ k, Fl s k → FileAt w k (s.fs k)
  lo : ∀ k, DSet s k → base ≤ k
  sz : (∀ p ∈ s.names, p.1.size ≤ 64) ∧ (∀ p ∈ s.kept, p.1.size ≤ 64) ∧ ∀ c ∈ s.ch, c.nm.size ≤ 64 ∧ c.gn.size ≤ 64
  bd : ∀ k, Fl s k → (s.fs k).by_.length ≤ 4194304 ∧ (s.fs k).sy ≤ (s.fs k).by_.length ∧ (s.fs k).id ≤ 4611686018427387904
  rm : 1 ≤ s.room ∧ s.room ≤ 4194304
  cn : s.names.length ≤ s.calls ∧ s.kept.length ≤ s.calls ∧ s.kept.length + s.ch.length ≤ s.calls ∧ s.files ≤ 4611686018427387904 ∧ s.armed ≤ 9223372036854775807
variable {base : Nat} {w w' : World} {s : DS}
theorem DAt.frame {S : Nat → Prop} (h : DAt base w s) (hf : Fr S w w') (hS : ∀ k, DSet s k → ¬ S k) (hB : ∀ k, BB w k → ¬ S k) : DAt base w' s where
  heap := hf.heap h.heap (hS _ (.inl rfl))
  names := h.names.frame hf (hS _ (.inr (.inl rfl)))
  kept := h.kept.frame hf (hS _ (.inr (.inr (.inl rfl))))
  ne := h.ne
  ch := hf.own h.ch fun k hk => hS _ (.inr (.inr (.inr (.inl hk))))
  fl k hk := (h.fl k hk).frame hf (hS _ (.inr (.inr (.inr (.inr hk))))) hB
  lo := h.lo
  sz := h.sz
  bd := h.bd
  rm := h.rm
  cn := h.cn
theorem DAt.fr (h : DAt base w s) (hf : Fr (fun _ => False) w w') : DAt base w' s := h.frame hf (fun _ _ => id) fun _ _ => id
/-- A block of the disk's own is no block of another make. -/
theorem DAt.other (h : DAt base w s) {k : Nat} (hk : DSet s k) {cs : Array Value} {t : TypeId} {fz : Nat × Nat} (hc : w.heap[k]? = some (.cells cs t fz)) : t = 62 ∨ t = 82 ∨ t = 78 := by
  rcases hk with rfl | rfl | rfl | hk | hk
  · have := h.heap
    rw [hc] at this
    simp only [Option.some.injEq, Obj.cells.injEq] at this
    exact .inl this.2.1
  · obtain ⟨es, cl, hm, -⟩ := h.names.cells
    rw [hc] at hm
    cases hm
  · obtain ⟨es, cl, hm, -⟩ := h.kept.cells
    rw [hc] at hm
    cases hm
  · by_cases e : t = 82
    · exact .inr (.inl e)
    · exact absurd rfl (own_ne_cells h.ch hc (fun e' => e e'.symm) k hk)
  · obtain ⟨v, hm, -⟩ := h.fl k hk
    rw [hc] at hm
    simp only [Option.some.injEq, Obj.cells.injEq] at hm
    exact .inr (.inr hm.2.1)
theorem DAt.bytes (h : DAt base w s) {k : Nat} (hk : BB w k) : ¬ DSet s k := fun hd => by
  obtain ⟨cs, fz, hc⟩ := hk
  have := h.other hd hc
  revert this
  decide
theorem DAt.cells (h : DAt base w s) : w.cell? ⟨s.X, 0, none⟩ = some (.int .i64 s.room) ∧ w.cell? ⟨s.X, 1, none⟩ = some (.map (some s.bn)) ∧ w.cell? ⟨s.X, 2, none⟩ = some (.map (some s.bk)) ∧ w.cell? ⟨s.X, 3, none⟩ = some s.cv ∧ w.cell? ⟨s.X, 4, none⟩ = some (.int .i64 s.files) ∧ w.cell? ⟨s.X, 5, none⟩ = some (.int .i64 s.armed) ∧ w.cell? ⟨s.X, 6, none⟩ = some (.bool s.down) ∧ w.cell? ⟨s.X, 7, none⟩ = some (.int .i64 s.calls) ∧ ∀ i, w.frozen? ⟨s.X, i, none⟩ = false := by
  refine ⟨?_, ?_, ?_, ?_, ?_, ?_, ?_, ?_, fun i => frozen_of_row _ _ i _ _ h.heap⟩
  all_goals (rw [cell_of_row _ _ _ _ _ _ h.heap]; rfl)
/-- What stands in the disk's own cells alone is another. -/
theorem DAt.turn (h : DAt base w s) (s' : DS) (hf : Fr (fun k => k = s.X) w w') (hX : s'.X = s.X) (hn : s'.bn = s.bn ∧ s'.bk = s.bk ∧ s'.cv = s.cv ∧ s'.names = s.names ∧ s'.kept = s.kept ∧ s'.ch = s.ch ∧ s'.fs = s.fs ∧ s'.room = s.room)
    (hh : w'.heap[s.X]? = some (.cells #[.int .i64 s.room, .map (some s.bn), .map (some s.bk), s.cv, .int .i64 s'.files, .int .i64 s'.armed, .bool s'.down, .int .i64 s'.calls] 62 (0, 0)))
    (hc : s.names.length ≤ s'.calls ∧ s.kept.length ≤ s'.calls ∧ s.kept.length + s.ch.length ≤ s'.calls ∧ s'.files ≤ 4611686018427387904 ∧ s'.armed ≤ 9223372036854775807) : DAt base w' s' := by
  obtain ⟨X, bn, bk, cv, room, names, kept, ch, files, armed, down, calls, fs⟩ := s'
  simp only at hX hn hh hc
  obtain ⟨rfl, rfl, rfl, rfl, rfl, rfl, rfl, rfl⟩ := hn
  subst hX
  have hne : ∀ {k : Nat} {o : Obj}, w.heap[k]? = some o → (∀ cs fz, o ≠ .cells cs 62 fz) → k ≠ s.X := fun hk ho e => by
    subst e
    rw [h.heap] at hk
    simp only [Option.some.injEq] at hk
    exact ho _ _ hk.symm
  refine ⟨hh, h.names.frame hf ?_, h.kept.frame hf ?_, h.ne, hf.own h.ch ?_, fun k hk => ?_, h.lo, h.sz, h.bd, h.rm, hc⟩
  · obtain ⟨es, cl, hm, -⟩ := h.names.cells
    exact hne hm fun _ _ e => by cases e
  · obtain ⟨es, cl, hm, -⟩ := h.kept.cells
    exact hne hm fun _ _ e => by cases e
  · exact own_ne_cells h.ch h.heap (by decide)
  · obtain ⟨v, hm, hb⟩ := h.fl k hk
    have h1 : k ≠ s.X := hne hm fun _ _ e => by
      simp only [Obj.cells.injEq] at e
      exact absurd e.2.1 (by decide)
    have h2 : ∀ j, BB w j → j ≠ s.X := fun j hj => by
      obtain ⟨cs, fz, hc⟩ := hj
      exact hne hc fun _ _ e => by
        simp only [Obj.cells.injEq] at e
        exact absurd e.2.1 (by decide)
    exact FileAt.frame ⟨v, hm, hb⟩ hf h1 h2

/-- Some of api's errors lie in their variables, below the disk. -/
def SI (I : List Nat) (base : Nat) (w : World) (pa : Nat → Addr) : Prop := ∀ i ∈ I, w.cell? ⟨sentG.getD i 0, 0, none⟩ = some (.iface 167 (.pointer (some (pa i)))) ∧ sentG.getD i 0 < base
theorem SI.frame {I : List Nat} {pa : Nat → Addr} {S : Nat → Prop} (h : SI I base w pa) (hf : Fr S w w') (hS : ∀ k, S k → base ≤ k) : SI I base w' pa := fun i hi => ⟨hf.cell (h i hi).1 fun e => by have h1 := hS _ e; have h2 := (h i hi).2; dsimp only at h1; omega, (h i hi).2⟩
theorem SI.fr {I : List Nat} {pa : Nat → Addr} (h : SI I base w pa) (hf : Fr (fun _ => False) w w') : SI I base w' pa := h.frame hf fun _ e => e.elim
/-- ErrRange, ErrName, ErrNone, ErrThere, ErrFull, ErrCrash. -/
abbrev S6 := SI [4, 5, 6, 7, 8, 9]

/-- begin. -/
def beginS (s : DS) : DS := if s.down then s else if 0 < s.armed then { s with armed := s.armed - 1, down := decide (s.armed = 1) } else s
def beginE (s : DS) : Nat := if s.down then 110 else if s.armed = 1 then 110 else 0
set_option maxRecDepth 100000 in
set_option maxHeartbeats 1600000 in
theorem begin_any (pa : Nat → Addr) (hS : S6 base w pa) (h : DAt base w s) :
    Calls Tryz.prog 37 #[.pointer (some ⟨s.X, 0, none⟩)] w fun e w' => e = .returned (errV pa (beginE s)) ∧ DAt base w' (beginS s) ∧ Fr (fun k => k = s.X) w w' := by
  obtain ⟨-, -, -, -, -, c5, c6, -, fz⟩ := h.cells
  obtain ⟨g9, hgl⟩ : w.cell? ⟨4, 0, none⟩ = some (.iface 167 (.pointer (some (pa 9)))) ∧ 4 < base := hS 9 (by decide)
  have hX : (4 = s.X) = False := eq_false (by have := h.lo s.X (.inl rfl); omega)
  have hX' : (s.X = 4) = False := eq_false (by have := h.lo s.X (.inl rfl); omega)
  have hcn := h.cn
  have H := hid h
  clear h hS
  by_cases hd : s.down = true
  · have e1 : beginE s = 110 := by unfold beginE; rw [if_pos hd]
    have e2 : beginS s = s := by unfold beginS; rw [if_pos hd]
    rw [e1, e2]
    rw [hd] at c6
    clear hd e1 e2 hcn hX hX'
    go_enter Tryz.func37, Tryz.ntmps37
    go_wp2_with fail
    go_ret
    exact ⟨rfl, H.out, Fr.refl _ _⟩
  have hd0 : s.down = false := by simpa using hd
  rw [hd0] at c6
  by_cases ha : s.armed = 0
  · have e1 : beginE s = 0 := by unfold beginE; rw [if_neg hd, if_neg (by omega)]
    have e2 : beginS s = s := by unfold beginS; rw [if_neg hd, if_neg (by omega)]
    rw [e1, e2]
    rw [ha] at c5
    clear hd hd0 ha e1 e2 hcn hX hX' g9
    go_enter Tryz.func37, Tryz.ntmps37
    go_wp2_with fail
    go_ret
    exact ⟨rfl, H.out, Fr.refl _ _⟩
  obtain ⟨q, hq⟩ : ∃ q, s.armed = q + 1 := ⟨s.armed - 1, by omega⟩
  rw [hq] at c5
  have hp : (0 : Int) < ((q + 1 : Nat) : Int) := by omega
  have e5 : ((q + 1 : Nat) : Int) - 1 = (q : Int) := by omega
  have w5 : IntKind.i64.wrap (q : Int) = (q : Int) := IntWalk.i64_in _ (by omega)
  generalize ((q + 1 : Nat) : Int) = qq at *
  by_cases hq0 : q = 0
  · subst hq0
    have e1 : beginE s = 110 := by unfold beginE; rw [if_neg hd, if_pos hq]
    have HE := hid (show beginS s = { s with armed := 0, down := true } by unfold beginS; rw [if_neg hd, if_pos (by omega), hq]; rfl)
    rw [e1]
    clear hd hd0 ha e1 hcn hq
    go_enter Tryz.func37, Tryz.ntmps37
    go_wp2_with fail
    go_ret
    refine ⟨rfl, ?_, ?_⟩
    · rw [HE.out]
      refine H.out.turn _ (((Fr.refl (fun k => k = s.X) w).setCell (p := ⟨s.X, 5, none⟩) (.inl rfl) _).setCell (p := ⟨s.X, 6, none⟩) (.inl rfl) _) rfl ⟨rfl, rfl, rfl, rfl, rfl, rfl, rfl, rfl⟩ ?_ ?_
      · have := setCell_row 6 (.bool true) (setCell_row 5 (.int .i64 0) H.out.heap)
        simpa using this
      · have := H.out.cn; dsimp only; omega
    · exact ((Fr.refl (fun k => k = s.X) w).setCell (p := ⟨s.X, 5, none⟩) (.inl rfl) _).setCell (p := ⟨s.X, 6, none⟩) (.inl rfl) _
  · have e1 : beginE s = 0 := by unfold beginE; rw [if_neg hd, if_neg (by omega)]
    have hqb : ((q : Int) == 0) = false := by rw [beq_eq_false_iff_ne]; omega
    have HE := hid (show beginS s = { s with armed := q, down := false } by unfold beginS; rw [if_neg hd, if_pos (by omega), hq, show decide (q + 1 = 1) = false by simpa using hq0]; rfl)
    rw [e1]
    have HQ := hid hq
    clear hd hd0 ha e1 hcn hq g9 hX hX'
    go_enter Tryz.func37, Tryz.ntmps37
    go_wp2_with fail
    go_ret
    refine ⟨rfl, ?_, ?_⟩
    · rw [HE.out]
      refine H.out.turn _ ((Fr.refl (fun k => k = s.X) w).setCell (p := ⟨s.X, 5, none⟩) (.inl rfl) _) rfl ⟨rfl, rfl, rfl, rfl, rfl, rfl, rfl, rfl⟩ ?_ ?_
      · have := setCell_row 5 (.int .i64 q) H.out.heap
        simp at this
        have h6 : s.down = false := by
          have := H.out.cells.2.2.2.2.2.2.1
          rw [c6] at this
          simpa using this.symm
        rw [h6] at this
        exact this
      · have := H.out.cn; have := HQ.out; dsimp only; omega
    · exact (Fr.refl (fun k => k = s.X) w).setCell (p := ⟨s.X, 5, none⟩) (.inl rfl) _
end Go.Proofs.YtlhbgobjhddhlaaGreatDoor
