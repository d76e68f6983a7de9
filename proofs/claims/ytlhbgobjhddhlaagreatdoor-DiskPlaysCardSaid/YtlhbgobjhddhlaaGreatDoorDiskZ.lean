/- The readings and Cut, by the disk's image. -/
import Derived.Test.YtlhbgobjhddhlaaGreatDoorDiskY
namespace Go.Proofs.YtlhbgobjhddhlaaGreatDoor
open Go.RowKit
variable {w0 w w' : World} {pa : Nat → Addr} {nm : ByteArray} {X : Nat} {p q : PS} {D : Nat → Prop} {s : DS}

def PS.fileE (q : PS) (nm : ByteArray) : Nat := if q.down then 110 else if lk q.names nm = none then 107 else 0
def PS.fileP (q : PS) (nm : ByteArray) : Option Nat := if q.down then none else lk q.names nm
def PS.lenV (q : PS) (nm : ByteArray) : Nat := match q.fileP nm with
  | some k => (q.fs k).by_.length
  | none => 0
def PS.synV (q : PS) (nm : ByteArray) : Nat := match q.fileP nm with
  | some k => (q.fs k).sy
  | none => 0
def PS.readE (q : PS) (nm : ByteArray) (o n : Int) : Nat := if q.fileE nm ≠ 0 then q.fileE nm else if o < 0 ∨ n < 0 ∨ (q.lenV nm : Int) < o ∨ (q.lenV nm : Int) - o < n then 105 else 0
def PS.readB (q : PS) (nm : ByteArray) (o n : Int) : List UInt8 := match q.fileP nm with
  | some k => (((q.fs k).by_.take (o + n).toNat).drop o.toNat)
  | none => []
theorem Im.fileE (h : Im p q) : q.fileE nm = p.fileE nm := by
  unfold PS.fileE
  rw [h.down]
  simp only [h.lk_none]
theorem Im.fileP (h : Im p q) : q.fileP nm = (p.fileP nm).map fun k => (p.fs k).id := by
  unfold PS.fileP
  rw [h.down, h.lk]
  split <;> rfl
theorem Im.fileK (h : Im p q) (hK : Ks p.names) {k : Nat} (hk : p.fileP nm = some k) : q.fs (p.fs k).id = p.fs k := by
  unfold PS.fileP at hk
  split at hk
  · cases hk
  · exact h.fs k (.inl ⟨nm, (lk_mem hK).1 hk⟩)
theorem Im.lenV (h : Im p q) (hK : Ks p.names) : q.lenV nm = p.lenV nm := by
  unfold PS.lenV
  rw [h.fileP]
  cases hk : p.fileP nm with
  | none => rfl
  | some k => show (q.fs (p.fs k).id).by_.length = _; rw [h.fileK hK hk]
theorem Im.synV (h : Im p q) (hK : Ks p.names) : q.synV nm = p.synV nm := by
  unfold PS.synV
  rw [h.fileP]
  cases hk : p.fileP nm with
  | none => rfl
  | some k => show (q.fs (p.fs k).id).sy = _; rw [h.fileK hK hk]
theorem Im.readB (h : Im p q) (hK : Ks p.names) (o n : Int) : q.readB nm o n = p.readB nm o n := by
  unfold PS.readB
  rw [h.fileP]
  cases hk : p.fileP nm with
  | none => rfl
  | some k => show ((q.fs (p.fs k).id).by_.take (o + n).toNat).drop o.toNat = _; rw [h.fileK hK hk]
theorem Im.readE (h : Im p q) (hK : Ks p.names) (o n : Int) : q.readE nm o n = p.readE nm o n := by
  unfold PS.readE
  rw [h.fileE, h.lenV hK]
theorem Im.lenN (h : Im p q) (hK : Ks p.names) : q.lenN nm = p.lenN nm := by
  unfold PS.lenN
  rw [h.lk]
  cases hk : Go.Proofs.YtlhbgobjhddhlaaGreatDoor.lk p.names nm with
  | none => rfl
  | some k => show (q.fs (p.fs k).id).by_.length = _; rw [h.fs k (.inl ⟨nm, (lk_mem hK).1 hk⟩)]
theorem Im.cutE (h : Im p q) (hK : Ks p.names) (n : Int) : q.cutE nm n = p.cutE nm n := by
  unfold PS.cutE
  rw [h.findE, h.lenN hK]
theorem cut_t (h : TW w0 w X q D) (hS : S6 w0.heap.size w0 pa) (hn : nm.size ≤ 1048576) (n : Int) (hnn : -9223372036854775808 ≤ n ∧ n ≤ 9223372036854775807) (hc : q.calls ≤ 1000000) :
    Calls Tryz.prog 14 #[.pointer (some ⟨X, 0, none⟩), .string nm, .int .i64 n] w fun e w' => e = .returned (errV pa (q.cutE nm n)) ∧ St1 w0 w w' X D (q.cutQ nm n) := by
  obtain ⟨s, h, rfl, hi, rfl⟩ := h
  refine (cut_l rfl hS h nm hn n hnn (by rw [show s.calls = (ps s).calls from rfl, ← hi.calls]; exact hc)).mono ?_
  rintro e w2 ⟨rfl, h1, h2⟩
  have hE : Go.Proofs.YtlhbgobjhddhlaaGreatDoor.cutE s nm n = q.cutE nm n := by rw [hi.cutE h.d.names.2]; rfl
  rw [hE] at h1 h2 ⊢
  refine ⟨rfl, ?_⟩
  unfold PS.cutQ
  by_cases h0 : q.cutE nm n = 0
  · rw [if_pos h0]
    obtain ⟨k, hk, hd, hf⟩ := h2 h0
    exact TW.to h hd rfl (by rw [fs_up hk]; exact hi.upd hk h.d.names.2 (fun f => ⟨f.id, f.by_.take n.toNat, n.toNat⟩) rfl) (beginS_same s).1 hf (fun _ h => h) fun j hj => .inl (dset_up j hj)
  · rw [if_neg h0]
    obtain ⟨h3, h4⟩ := h1 h0
    exact st_beg h rfl hi h3 h4 fun _ h => h
theorem len_t (h : TW w0 w X q D) (hS : S6 w0.heap.size w0 pa) (hn : nm.size ≤ maxLen) :
    Calls Tryz.prog 32 #[.pointer (some ⟨X, 0, none⟩), .string nm] w fun e w' => e = .returned (.tuple #[.int .i64 (q.lenV nm), errV pa (q.fileE nm)]) ∧ Fr (fun _ => False) w w' := by
  obtain ⟨s, h, rfl, hi, rfl⟩ := h
  rw [hi.lenV h.d.names.2, hi.fileE]
  exact len_any pa (h.s6 hS) h.d nm hn
theorem synced_t (h : TW w0 w X q D) (hS : S6 w0.heap.size w0 pa) (hn : nm.size ≤ maxLen) :
    Calls Tryz.prog 59 #[.pointer (some ⟨X, 0, none⟩), .string nm] w fun e w' => e = .returned (.tuple #[.int .i64 (q.synV nm), errV pa (q.fileE nm)]) ∧ Fr (fun _ => False) w w' := by
  obtain ⟨s, h, rfl, hi, rfl⟩ := h
  rw [hi.synV h.d.names.2, hi.fileE]
  exact synced_any pa (h.s6 hS) h.d nm hn
theorem read_t (h : TW w0 w X q D) (hS : S6 w0.heap.size w0 pa) (hn : nm.size ≤ maxLen) (o n : Int) (ho : -9223372036854775808 ≤ o ∧ o ≤ 9223372036854775807) (hnn : -9223372036854775808 ≤ n ∧ n ≤ 9223372036854775807) :
    Calls Tryz.prog 28 #[.pointer (some ⟨X, 0, none⟩), .string nm, .int .i64 o, .int .i64 n] w fun e w' => Fr (fun _ => False) w w' ∧ ∃ v, e = .returned (.tuple #[v, errV pa (q.readE nm o n)]) ∧ (q.readE nm o n = 0 → OB w.heap.size w' v (q.readB nm o n)) ∧ (q.readE nm o n ≠ 0 → v = .slice none 0 0) := by
  obtain ⟨s, h, rfl, hi, rfl⟩ := h
  rw [hi.readE h.d.names.2, hi.readB h.d.names.2]
  exact read_any pa (h.s6 hS) h.d nm hn o n ho hnn
theorem clone_u (hd : LW w0 w s) (hc : s.calls ≤ 1000000) :
    Calls Tryz.prog 9 #[.pointer (some ⟨s.X, 0, none⟩)] w fun e w' => e = .returned (.int .i64 (ps s).used) ∧ Fr (fun _ => False) w w' :=
  used_p ⟨s, hd, rfl, rfl⟩ hc
end Go.Proofs.YtlhbgobjhddhlaaGreatDoor
