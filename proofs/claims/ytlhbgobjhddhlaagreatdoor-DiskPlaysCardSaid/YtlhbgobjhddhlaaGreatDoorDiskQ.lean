/- Package disk: a disk as plain data; its calls. -/
import Derived.Test.YtlhbgobjhddhlaaGreatDoorDiskP
namespace Go.Proofs.YtlhbgobjhddhlaaGreatDoor
open Go.RowKit
variable {w0 w w' : World} {s : DS} {pa : Nat → Addr} {nm : ByteArray} {X : Nat}

/-- A disk without its blocks. -/
structure PS where
  room : Int
  names : Nm
  kept : Nm
  ch : List Chg
  files : Nat
  armed : Nat
  down : Bool
  calls : Nat
  fs : Nat → FS
def ps (s : DS) : PS := ⟨s.room, s.names, s.kept, s.ch, s.files, s.armed, s.down, s.calls, s.fs⟩
def PW (w0 w : World) (X : Nat) (p : PS) : Prop := ∃ s, LW w0 w s ∧ s.X = X ∧ ps s = p
/-- What a call on a disk may write: nothing but what disks are made of. -/
def Tk (w : World) (k : Nat) : Prop := ¬ ∃ cs t fz, w.heap[k]? = some (.cells cs t fz) ∧ t ≠ 62 ∧ t ≠ 82 ∧ t ≠ 78
theorem LW.tk (h : LW w0 w s) (hf : Fr (DSet s) w w') : Fr (Tk w) w w' := hf.mono fun k _ hk ⟨cs, t, fz, hc, h1, h2, h3⟩ => by
  rcases h.d.other hk hc with e | e | e
  · exact h1 e
  · exact h2 e
  · exact h3 e
theorem Tk.no {k : Nat} {cs : Array Value} {t : TypeId} {fz : Nat × Nat} (hc : w.heap[k]? = some (.cells cs t fz)) (h1 : t ≠ 62) (h2 : t ≠ 82) (h3 : t ≠ 78) : ¬ Tk w k := fun h => h ⟨cs, t, fz, hc, h1, h2, h3⟩
theorem Tk.bytes {k : Nat} (h : BB w k) : ¬ Tk w k := by
  obtain ⟨cs, fz, hc⟩ := h
  exact Tk.no hc (by decide) (by decide) (by decide)
theorem fr_tk (hf : Fr (fun _ => False) w w') : Fr (Tk w) w w' := hf.mono fun _ _ h => h.elim
theorem PW.fr {p : PS} (h : PW w0 w X p) (hf : Fr (fun _ => False) w w') : PW w0 w' X p := by
  obtain ⟨s, h, hX, hp⟩ := h
  exact ⟨s, h.fr hf, hX, hp⟩
theorem PW.f {p : PS} (h : PW w0 w X p) : Fr (fun _ => False) w0 w := by
  obtain ⟨s, h, -⟩ := h
  exact h.f
/-- What a disk is always. -/
structure PS.Ok (p : PS) : Prop where
  kn : Ks p.names
  kk : Ks p.kept
  sz : (∀ q ∈ p.names, q.1.size ≤ 64) ∧ (∀ q ∈ p.kept, q.1.size ≤ 64)
  bd : ∀ k, (∃ n, (n, k) ∈ p.names) → (p.fs k).by_.length ≤ 4194304 ∧ (p.fs k).sy ≤ (p.fs k).by_.length
  rm : 1 ≤ p.room ∧ p.room ≤ 4194304
  cn : p.names.length ≤ p.calls
theorem PW.ok {p : PS} (h : PW w0 w X p) : p.Ok := by
  obtain ⟨s, h, hX, rfl⟩ := h
  exact ⟨h.d.names.2, h.d.kept.2, ⟨h.d.sz.1, h.d.sz.2.1⟩, fun k hk => ⟨(h.d.bd k (.inl hk)).1, (h.d.bd k (.inl hk)).2.1⟩, h.d.rm, h.d.cn.1⟩
def PFl (p : PS) (k : Nat) : Prop := (∃ n, (n, k) ∈ p.names) ∨ (∃ n, (n, k) ∈ p.kept) ∨ ∃ c ∈ p.ch, c.fl = some k
def upd (g : Nat → FS) (k : Nat) (f : FS) (j : Nat) : FS := if j = k then f else g j
@[simp] theorem upd_same (g : Nat → FS) (k : Nat) (f : FS) : upd g k f k = f := if_pos rfl
theorem upd_ne (g : Nat → FS) {k j : Nat} (f : FS) (h : j ≠ k) : upd g k f j = g j := if_neg h
def PS.calm (p : PS) : Prop := p.down = false ∧ p.armed = 0
def PS.new (room : Int) : PS := ⟨room, [], [], [], 0, 0, false, 0, fun _ => ⟨0, [], 0⟩⟩
def PS.create (p : PS) (nm : ByteArray) (F : Nat) : PS := { p with names := pt p.names nm F, ch := p.ch ++ [⟨nm, ⟨#[]⟩, some F⟩], files := p.files + 1, calls := p.calls + 1, fs := upd p.fs F ⟨p.files + 1, [], 0⟩ }
def PS.put (p : PS) (k : Nat) (f : FS) : PS := { p with fs := upd p.fs k f, calls := p.calls + 1 }
def PS.syncDir (p : PS) : PS := { p with kept := p.names, ch := [], calls := p.calls + 1 }
def PS.change (p : PS) (c : Chg) : PS := { p with names := applyM p.names c, ch := p.ch ++ [c], calls := p.calls + 1 }
def PS.arm (p : PS) (n : Int) : PS := { p with armed := n.toNat }
def PS.used (p : PS) : Nat := sumF (fun k => (p.fs k).by_.length) p.names
def PS.kp (p : PS) (i : Nat) : Nm := (p.ch.take i).foldl applyM p.kept
def PS.cp (p : PS) (picks : List Int) : Nat := pick picks 0 p.ch.length
def PS.crash (p : PS) (picks : List Int) (G : List Nat) : PS :=
  { p with names := p.kp (p.cp picks), kept := p.kp (p.cp picks), ch := [], armed := 0, down := false,
           fs := fun k => if k ∈ G then cutF (p.fs k) (pick picks (G.idxOf k + 1) ((p.fs k).by_.length - (p.fs k).sy)) else p.fs k }
def PS.order (p : PS) (picks : List Int) (G : List Nat) : Prop := G.Nodup ∧ (∀ k, k ∈ G ↔ ∃ n, (n, k) ∈ p.kp (p.cp picks)) ∧ G.Pairwise fun a b => (p.fs a).id ≤ (p.fs b).id
theorem new_p (hS : S6 w0.heap.size w0 pa) (hf : Fr (fun _ => False) w0 w) (room : Int) :
    Calls Tryz.prog 5 #[.int .i64 room] w fun e w' => (newOk room = false → e = .returned (.tuple #[.pointer none, errV pa 105]) ∧ Fr (fun _ => False) w w') ∧
      (newOk room = true → ∃ X, e = .returned (.tuple #[.pointer (some ⟨X, 0, none⟩), .nilIface]) ∧ PW w0 w' X (PS.new room) ∧ Fr (fun _ => False) w w') :=
  (new_l hS hf room).mono fun _ _ ⟨h1, h2⟩ => ⟨h1, fun hk => by
    obtain ⟨e, h3, h4⟩ := h2 hk
    exact ⟨_, e, ⟨_, h3, rfl, rfl⟩, h4⟩⟩
theorem create_p {p : PS} (h : PW w0 w X p) (hS : S6 w0.heap.size w0 pa) (hc : p.calm) (ho : okN nm = true) (hl : lk p.names nm = none) (hb : p.calls ≤ 1000000 ∧ p.files ≤ 1000000) :
    Calls Tryz.prog 10 #[.pointer (some ⟨X, 0, none⟩), .string nm] w fun e w' => e = .returned .nilIface ∧ ∃ F, (∀ k, PFl p k → k ≠ F) ∧ PW w0 w' X (p.create nm F) ∧ Fr (Tk w) w w' := by
  obtain ⟨s, h, rfl, rfl⟩ := h
  refine (create_c rfl hS h hc ho hl hb).mono ?_
  rintro e w2 ⟨rfl, F, cv, hF, h2, hf⟩
  exact ⟨rfl, F, fun k hk e => by have := (h.d.fl k hk).lt; omega, ⟨_, h2, rfl, rfl⟩, h.tk hf⟩
theorem LW.nd {D : Nat → Prop} (h : LW w0 w s) (hD : ∀ k, D k → ¬ Tk w k ∨ k < w0.heap.size) : ∀ k, D k → ¬ DSet s k := fun k hk hd => by
  rcases hD k hk with h1 | h1
  · exact h1 fun ⟨cs, t, fz, hc, h1, h2, h3⟩ => by
      rcases h.d.other hd hc with e | e | e
      · exact h1 e
      · exact h2 e
      · exact h3 e
  · have := h.d.lo k hd
    omega
theorem append_q {p : PS} (h : PW w0 w X p) (hS : S6 w0.heap.size w0 pa) (hc : p.calm) {k : Nat} (hl : lk p.names nm = some k) (v : Value) (m : List UInt8) (D : Nat → Prop) (hv : Bs D w v m) (hD : ∀ k, D k → ¬ Tk w k ∨ k < w0.heap.size) (hm : (p.used : Int) + m.length ≤ p.room) (hb : p.calls ≤ 1000000) :
    Calls Tryz.prog 12 #[.pointer (some ⟨X, 0, none⟩), .string nm, v] w fun e w' => e = .returned .nilIface ∧ PW w0 w' X (p.put k ⟨(p.fs k).id, (p.fs k).by_ ++ m, (p.fs k).sy⟩) ∧ Fr (Tk w) w w' := by
  obtain ⟨s, h, rfl, rfl⟩ := h
  refine (append_c rfl hS h hc hl v m D hv (h.nd hD) hm hb).mono ?_
  rintro e w2 ⟨rfl, h2, hf⟩
  exact ⟨rfl, ⟨_, h2, rfl, rfl⟩, h.tk hf⟩
theorem append_p {p : PS} (h : PW w0 w X p) (hS : S6 w0.heap.size w0 pa) (hc : p.calm) {k : Nat} (hl : lk p.names nm = some k) (v : Value) (m : List UInt8) (D : Nat → Prop) (hv : Bs D w v m) (hD : ∀ k, D k → BB w k) (hm : (p.used : Int) + m.length ≤ p.room) (hb : p.calls ≤ 1000000) :
    Calls Tryz.prog 12 #[.pointer (some ⟨X, 0, none⟩), .string nm, v] w fun e w' => e = .returned .nilIface ∧ PW w0 w' X (p.put k ⟨(p.fs k).id, (p.fs k).by_ ++ m, (p.fs k).sy⟩) ∧ Fr (Tk w) w w' :=
  append_q h hS hc hl v m D hv (fun k hk => .inl (Tk.bytes (hD k hk))) hm hb
theorem appendfull_q {p : PS} (h : PW w0 w X p) (hS : S6 w0.heap.size w0 pa) (hc : p.calm) {k : Nat} (hl : lk p.names nm = some k) (v : Value) (m : List UInt8) (D : Nat → Prop) (hv : Bs D w v m) (hD : ∀ k, D k → ¬ Tk w k ∨ k < w0.heap.size) (hm : p.room < (p.used : Int) + m.length) (hm2 : m.length ≤ 1073741824) (hb : p.calls ≤ 1000000) :
    Calls Tryz.prog 12 #[.pointer (some ⟨X, 0, none⟩), .string nm, v] w fun e w' => e = .returned (errV pa 109) ∧ PW w0 w' X p ∧ Fr (Tk w) w w' := by
  obtain ⟨s, h, rfl, rfl⟩ := h
  refine (appendfull_c rfl hS h hc hl v m D hv (h.nd hD) hm hm2 hb).mono ?_
  rintro e w2 ⟨rfl, h2, hf⟩
  exact ⟨rfl, ⟨_, h2, rfl, rfl⟩, h.tk hf⟩
theorem appendfull_p {p : PS} (h : PW w0 w X p) (hS : S6 w0.heap.size w0 pa) (hc : p.calm) {k : Nat} (hl : lk p.names nm = some k) (v : Value) (m : List UInt8) (D : Nat → Prop) (hv : Bs D w v m) (hD : ∀ k, D k → BB w k) (hm : p.room < (p.used : Int) + m.length) (hm2 : m.length ≤ 1073741824) (hb : p.calls ≤ 1000000) :
    Calls Tryz.prog 12 #[.pointer (some ⟨X, 0, none⟩), .string nm, v] w fun e w' => e = .returned (errV pa 109) ∧ PW w0 w' X p ∧ Fr (Tk w) w w' :=
  appendfull_q h hS hc hl v m D hv (fun k hk => .inl (Tk.bytes (hD k hk))) hm hm2 hb
theorem sync_p {p : PS} (h : PW w0 w X p) (hS : S6 w0.heap.size w0 pa) (hc : p.calm) {k : Nat} (hl : lk p.names nm = some k) (hb : p.calls ≤ 1000000) :
    Calls Tryz.prog 16 #[.pointer (some ⟨X, 0, none⟩), .string nm] w fun e w' => e = .returned .nilIface ∧ PW w0 w' X (p.put k ⟨(p.fs k).id, (p.fs k).by_, (p.fs k).by_.length⟩) ∧ Fr (Tk w) w w' := by
  obtain ⟨s, h, rfl, rfl⟩ := h
  refine (sync_c rfl hS h hc hl hb).mono ?_
  rintro e w2 ⟨rfl, h2, hf⟩
  exact ⟨rfl, ⟨_, h2, rfl, rfl⟩, h.tk hf⟩
theorem cut_p {p : PS} (h : PW w0 w X p) (hS : S6 w0.heap.size w0 pa) (hc : p.calm) {k : Nat} (hl : lk p.names nm = some k) (n : Nat) (hn : n ≤ (p.fs k).by_.length) (hb : p.calls ≤ 1000000) :
    Calls Tryz.prog 14 #[.pointer (some ⟨X, 0, none⟩), .string nm, .int .i64 n] w fun e w' => e = .returned .nilIface ∧ PW w0 w' X (p.put k ⟨(p.fs k).id, (p.fs k).by_.take n, n⟩) ∧ Fr (Tk w) w w' := by
  obtain ⟨s, h, rfl, rfl⟩ := h
  refine (cut_c rfl hS h hc hl n hn hb).mono ?_
  rintro e w2 ⟨rfl, h2, hf⟩
  exact ⟨rfl, ⟨_, h2, rfl, rfl⟩, h.tk hf⟩
theorem syncdir_p {p : PS} (h : PW w0 w X p) (hS : S6 w0.heap.size w0 pa) (hc : p.calm) (hb : p.calls ≤ 1000000) :
    Calls Tryz.prog 22 #[.pointer (some ⟨X, 0, none⟩)] w fun e w' => e = .returned .nilIface ∧ PW w0 w' X p.syncDir ∧ Fr (Tk w) w w' := by
  obtain ⟨s, h, rfl, rfl⟩ := h
  refine (syncdir_c rfl hS h hc hb).mono ?_
  rintro e w2 ⟨rfl, bk, -, h2, hf⟩
  exact ⟨rfl, ⟨_, h2, rfl, rfl⟩, h.tk hf⟩
theorem remove_p {p : PS} (h : PW w0 w X p) (hS : S6 w0.heap.size w0 pa) (hc : p.calm) {k : Nat} (hl : lk p.names nm = some k) (hb : p.calls ≤ 1000000) :
    Calls Tryz.prog 20 #[.pointer (some ⟨X, 0, none⟩), .string nm] w fun e w' => e = .returned .nilIface ∧ PW w0 w' X (p.change ⟨⟨#[]⟩, nm, none⟩) ∧ Fr (Tk w) w w' := by
  obtain ⟨s, h, rfl, rfl⟩ := h
  refine (remove_c rfl hS h hc hl hb).mono ?_
  rintro e w2 ⟨rfl, cv, h2, hf⟩
  exact ⟨rfl, ⟨_, h2, rfl, rfl⟩, h.tk hf⟩
theorem rename_p {p : PS} (h : PW w0 w X p) (hS : S6 w0.heap.size w0 pa) (hc : p.calm) {k : Nat} (hl : lk p.names nm = some k) (nt : ByteArray) (ho : okN nt = true) (hb : p.calls ≤ 1000000) :
    Calls Tryz.prog 18 #[.pointer (some ⟨X, 0, none⟩), .string nm, .string nt] w fun e w' => e = .returned .nilIface ∧ PW w0 w' X (p.change (renC nm nt k)) ∧ Fr (Tk w) w w' := by
  obtain ⟨s, h, rfl, rfl⟩ := h
  refine (rename_c rfl hS h hc hl nt ho hb).mono ?_
  rintro e w2 ⟨rfl, cv, h2, hf⟩
  exact ⟨rfl, ⟨_, h2, rfl, rfl⟩, h.tk hf⟩
theorem crash_q {p : PS} (h : PW w0 w X p) (hc : p.calls ≤ 1000000) (D : Nat → Prop) (pv : Value) (picks : List Int) (hp : Is D w pv picks) (hD : ∀ k, D k → ¬ Tk w k ∨ k < w0.heap.size) (hr : ∀ k, -9223372036854775808 ≤ picks.getD k 0 ∧ picks.getD k 0 ≤ 9223372036854775807) (hl : picks.length ≤ 1000000) :
    Calls Tryz.prog 26 #[.pointer (some ⟨X, 0, none⟩), pv] w fun e w' => e = .returned (.tuple #[]) ∧ ∃ G, p.order picks G ∧ PW w0 w' X (p.crash picks G) ∧ Fr (Tk w) w w' := by
  obtain ⟨s, h, rfl, rfl⟩ := h
  refine (crash_l rfl h hc D pv picks hp (h.nd hD) hr hl).mono ?_
  rintro e w2 ⟨rfl, G, bn, -, hG, h2, hf⟩
  exact ⟨rfl, G, hG, ⟨_, h2, rfl, rfl⟩, h.tk hf⟩
theorem crash_p {p : PS} (h : PW w0 w X p) (hc : p.calls ≤ 1000000) (D : Nat → Prop) (pv : Value) (picks : List Int) (hp : Is D w pv picks) (hD : ∀ k, D k → ¬ Tk w k) (hr : ∀ k, -9223372036854775808 ≤ picks.getD k 0 ∧ picks.getD k 0 ≤ 9223372036854775807) (hl : picks.length ≤ 1000000) :
    Calls Tryz.prog 26 #[.pointer (some ⟨X, 0, none⟩), pv] w fun e w' => e = .returned (.tuple #[]) ∧ ∃ G, p.order picks G ∧ PW w0 w' X (p.crash picks G) ∧ Fr (Tk w) w w' :=
  crash_q h hc D pv picks hp (fun k hk => .inl (hD k hk)) hr hl
theorem crash0_p {p : PS} (h : PW w0 w X p) (hc : p.calls ≤ 1000000) :
    Calls Tryz.prog 26 #[.pointer (some ⟨X, 0, none⟩), .slice none 0 0] w fun e w' => e = .returned (.tuple #[]) ∧ ∃ G, p.order [] G ∧ PW w0 w' X (p.crash [] G) ∧ Fr (Tk w) w w' :=
  crash_p h hc (fun _ => False) _ [] ⟨none, 0, rfl, Nat.le_refl _, Nat.zero_le _, fun k hk => by simp at hk⟩ (fun _ h => h.elim) (fun k => by simp) (by simp)
theorem len_p {p : PS} (h : PW w0 w X p) (hS : S6 w0.heap.size w0 pa) (hc : p.calm) {k : Nat} (hl : lk p.names nm = some k) :
    Calls Tryz.prog 32 #[.pointer (some ⟨X, 0, none⟩), .string nm] w fun e w' => e = .returned (.tuple #[.int .i64 (p.fs k).by_.length, .nilIface]) ∧ Fr (fun _ => False) w w' := by
  obtain ⟨s, h, rfl, rfl⟩ := h
  exact len_c rfl hS h hc hl
theorem len0_p {p : PS} (h : PW w0 w X p) (hS : S6 w0.heap.size w0 pa) (hc : p.calm) (hn : nm.size ≤ 1048576) (hl : lk p.names nm = none) :
    Calls Tryz.prog 32 #[.pointer (some ⟨X, 0, none⟩), .string nm] w fun e w' => e = .returned (.tuple #[.int .i64 0, errV pa 107]) ∧ Fr (fun _ => False) w w' := by
  obtain ⟨s, h, rfl, rfl⟩ := h
  exact len0_c rfl hS h hc hn hl
theorem synced_p {p : PS} (h : PW w0 w X p) (hS : S6 w0.heap.size w0 pa) (hc : p.calm) {k : Nat} (hl : lk p.names nm = some k) :
    Calls Tryz.prog 59 #[.pointer (some ⟨X, 0, none⟩), .string nm] w fun e w' => e = .returned (.tuple #[.int .i64 (p.fs k).sy, .nilIface]) ∧ Fr (fun _ => False) w w' := by
  obtain ⟨s, h, rfl, rfl⟩ := h
  exact synced_c rfl hS h hc hl
theorem read_p {p : PS} (h : PW w0 w X p) (hS : S6 w0.heap.size w0 pa) (hc : p.calm) {k : Nat} (hl : lk p.names nm = some k) (o n : Nat) (hn : o + n ≤ (p.fs k).by_.length) :
    Calls Tryz.prog 28 #[.pointer (some ⟨X, 0, none⟩), .string nm, .int .i64 o, .int .i64 n] w fun e w' => Fr (fun _ => False) w w' ∧ ∃ v, e = .returned (.tuple #[v, .nilIface]) ∧ OB w.heap.size w' v (((p.fs k).by_.take (o + n)).drop o) := by
  obtain ⟨s, h, rfl, rfl⟩ := h
  exact read_c rfl hS h hc hl o n hn
theorem used_p {p : PS} (h : PW w0 w X p) (hc : p.calls ≤ 1000000) :
    Calls Tryz.prog 9 #[.pointer (some ⟨X, 0, none⟩)] w fun e w' => e = .returned (.int .i64 p.used) ∧ Fr (fun _ => False) w w' := by
  obtain ⟨s, h, rfl, rfl⟩ := h
  exact used_l rfl h hc
theorem down_p {p : PS} (h : PW w0 w X p) : Calls Tryz.prog 65 #[.pointer (some ⟨X, 0, none⟩)] w fun e w' => e = .returned (.bool p.down) ∧ w = w' := by
  obtain ⟨s, h, rfl, rfl⟩ := h
  exact down_any h.d
theorem calls_p {p : PS} (h : PW w0 w X p) : Calls Tryz.prog 64 #[.pointer (some ⟨X, 0, none⟩)] w fun e w' => e = .returned (.int .i64 p.calls) ∧ w = w' := by
  obtain ⟨s, h, rfl, rfl⟩ := h
  exact calls_any h.d
theorem arm_p {p : PS} (h : PW w0 w X p) (n : Int) (hn : n ≤ 9223372036854775807) :
    Calls Tryz.prog 24 #[.pointer (some ⟨X, 0, none⟩), .int .i64 n] w fun e w' => e = .returned (.tuple #[]) ∧ PW w0 w' X (p.arm n) ∧ Fr (Tk w) w w' := by
  obtain ⟨s, h, rfl, rfl⟩ := h
  refine (arm_l rfl h n hn).mono ?_
  rintro e w2 ⟨rfl, h2, hf⟩
  exact ⟨rfl, ⟨_, h2, rfl, rfl⟩, h.tk hf⟩
/-- A row of bytes made anew. -/
theorem Bs.row {w : World} {g : Nat} {l : List UInt8} {fz : Nat × Nat} (h : w.heap[g]? = some (.cells (bV l).toArray 5 fz)) (hl : l.length ≤ maxLen) : Bs (fun k => k = g) w (.slice (some ⟨g, 0, none⟩) l.length l.length) l := by
  refine ⟨_, _, rfl, Nat.le_refl _, hl, fun k hk => ⟨g, 0, rfl, rfl, ?_⟩⟩
  rw [Nat.zero_add, cell_of_row _ _ _ _ _ _ h]
  simp [bV, List.getD, hk]
theorem lk_one (nm : ByteArray) (f : Nat) : lk (pt [] nm f) nm = some f := (lk_pt [] nm f nm).trans (if_pos rfl)
theorem cp_nil (p : PS) : p.cp [] = 0 := pick_nil _ _
theorem cp_ch (p : PS) (picks : List Int) (h : p.ch = []) : p.cp picks = 0 := by
  have := pick_le picks 0 p.ch.length
  unfold PS.cp
  rw [h] at this ⊢
  exact Nat.le_zero.1 this
theorem kp0 (p : PS) : p.kp 0 = p.kept := rfl
end Go.Proofs.YtlhbgobjhddhlaaGreatDoor
